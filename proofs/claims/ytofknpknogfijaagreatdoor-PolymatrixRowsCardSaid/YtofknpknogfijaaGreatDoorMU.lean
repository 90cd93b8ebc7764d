/- The field's products and powers,and the test of primes: contracts. -/
import Derived.Test.YtofknpknogfijaaGreatDoorSP1
namespace Go.Proofs.YtofknpknogfijaaGreatDoor
open Go.Ab
set_option linter.all false
set_option maxHeartbeats 16000000
set_option maxRecDepth 20000
attribute [local irreducible] Ql wA Xr Xp QA Qp QW QY
variable [HB]
abbrev fld (p g:Nat):AV:=.agg [.int .u64 (p:Nat),.int .u64 (g:Nat)]
abbrev u (n:Nat):AV:=.sc (.int .u64 (n:Nat))
theorem YY (h0:Qa) (p g a b:Nat) (hp:0 < p∧p < 18446744073709551616) (ha:a < 18446744073709551616) (hb:b < 18446744073709551616):∃ r h',Cal FT HKt 98 [fld p g,u a,u b] h0 r h'∧Ext h0 h'∧r=u (a*b%p):=by
 refine Cal.of (F:=a98) rfl rfl rfl ?_
 have k103:=fun H=>QdU H (a:Int) (b:Int) ⟨by omega,by omega⟩ ⟨by omega,by omega⟩
 rw [← GZ] at k103
 have hlt:a*b < 18446744073709551616*18446744073709551616:=Nat.mul_lt_mul'' ha hb
 generalize hm:a*b=m at *
 have k124:=fun H=>QjN H (m / 18446744073709551616) (m%18446744073709551616) p (by omega) (by omega) hp
 rw [show m / 18446744073709551616*18446744073709551616+m%18446744073709551616=m by omega] at k124
 rw [show ((m:Nat):Int) / 18446744073709551616=((m / 18446744073709551616:Nat):Int) by omega,show ((m:Nat):Int)%18446744073709551616=((m%18446744073709551616:Nat):Int) by omega] at k103
 repeat' (first | refine Qg ?_ | refine Qb ?_ | refine Qt ?_ | refine Qf ?_ | ((refine Qe ?_);first | refine Qq rfl ?_ | refine Qu rfl rfl rfl ?_) | ((refine Qc ?_);first | (refine Qx rfl ?_;intro h1 e1 c1) | (refine Qi rfl (k103 _) ?_;rintro v _ ⟨rfl,rfl⟩) | refine Xi rfl ?_ | refine QQ rfl c1 ?_ | (refine Qi rfl (k124 _) ?_;rintro v _ ⟨rfl,rfl⟩) | refine Qo rfl ?_ | refine Xt rfl rfl ?_))
 exact ⟨.inr rfl,e1,rfl⟩
def YI (p:Nat):Nat→Nat→Nat→Nat→Nat
 | 0,r,_,_=>r
 | n+1,r,a,e=>if e=0 then r else frc (if e%2=1 then r*a%p else r) fun r'=>frc (a*a%p) fun a'=>frc (e / 2) fun e'=>YI p n r' a' e'
theorem Z6 (p n r a e:Nat):YI p (n+1) r a e=if e=0 then r else YI p n (if e%2=1 then r*a%p else r) (a*a%p) (e / 2):=by
 simp only [YI,Yn]
theorem QeF (p n r a:Nat):YI p n r a 0=r:=by
 cases n
 ·rfl
 ·rw [Z6,if_pos rfl]
theorem Qdi (p:Nat) (hp:0 < p):∀ (n r a e:Nat),r < 18446744073709551616→p < 18446744073709551616→YI p n r a e < 18446744073709551616
 | 0,r,a,e,h,_=>h
 | n+1,r,a,e,h,h2=>by
  rw [Z6]
  split
  ·exact h
  ·refine Qdi p hp n _ _ _ ?_ h2
   split
   ·have:=GU (r*a) hp;omega
   ·exact h
def I119 (h0:Qa) (q3 p g X:Nat) (k:Nat) (E:Env) (h:Qa):Prop:=∃ r a e:Nat,r < 18446744073709551616∧a < 18446744073709551616∧e < 2 ^ k∧k≤64∧YI p k r a e=X∧Ext h0 h∧Cel h q3 (.int .u64 (p:Nat)) (.int .u64 (g:Nat)) ∧
 E.keep [1,2,3,7]=[(1,some (u a)),(2,some (u e)),(3,some (.sc (.ptr q3 0))),(7,some (u r))]
def R119 (h0:Qa) (X:Nat) (ex:Ex) (E:Env) (h:Qa):Prop:=ex=.ex 0∧Ext h0 h∧∃ a b c d,E=[(1,a),(2,b),(3,c),(7,some (u X)),(9,d)]
theorem QfR (h0:Qa) (q3 p g X:Nat) (hp:0 < p∧p < 18446744073709551616) (k:Nat) (E:Env) (h:Qa) (hI:I119 h0 q3 p g X k E h) :
  wA FT HKt Qhv (E.keep [1,2,3,7]) h (Qp (I119 h0 q3 p g X) k (R119 h0 X)):=by
 obtain ⟨r,a,e,hr,ha,he,hk,hX,x,c3,hE⟩:=hI
 rw [hE]
 have he64:e < 18446744073709551616:=GG he (GM (by decide) hk)
 have c3':Cel h q3 (.int .u64 (p:Nat)) (.int .u64 (g:Nat)):=c3
 by_cases h0':e=0
 ·subst h0'
  rw [QeF] at hX
  subst hX
  repeat' (first | refine Qg ?_ | refine Qb ?_ | refine Q0 ?_ | refine QX ?_ | refine Qf ?_ | ((refine Qh ?_);refine Qk rfl ?_) | ((refine Qe ?_);refine QU rfl rfl rfl rfl rfl ?_) | ((refine Qc ?_);first | refine Qo rfl ?_ | refine XT rfl rfl (by omega) ?_))
  exact QN ⟨rfl,x,_,_,_,_,rfl⟩
 cases k with
 | zero=>simp at he;omega
 | succ k =>
 rw [Z6,if_neg h0'] at hX
 have k2:=fun H=>YY H p g a a hp ha ha
 have k1:=fun H=>YY H p g r a hp hr ha
 have hsh:(e:Int) / ((2 ^ 1:Nat):Int)=((e / 2:Nat):Int):=by omega
 have hp2:e / 2 < 2 ^ k:=by rw [Nat.pow_succ] at he;omega
 by_cases ho:e%2=1
 ·have h1:(e:Int)%((2 ^ 1:Nat):Int)=1:=by omega
  rw [if_pos ho] at hX
  repeat' (first | refine Qg ?_ | refine Qb ?_ | refine Qv ?_ | refine QJ ?_ | refine Qn ?_ | refine Qf ?_ | ((refine Qh ?_);refine Qj rfl ?_) | ((refine Qe ?_);first | refine QG rfl rfl rfl rfl ?_ | refine QU rfl rfl rfl rfl rfl ?_) | ((refine Qc ?_);first | refine Qat (q:=1) rfl rfl (by omega) (by omega) rfl ?_ | refine XN (q:=1) rfl rfl rfl (by omega) ?_ | refine QI rfl c3' ?_ | (have z:=e1;refine QI rfl c31 ?_) | (refine Qi rfl (k1 _) ?_;rintro v h1 ⟨e1,rfl⟩;have c31:=c3.ext e1) | (refine Qi rfl (k2 _) ?_;rintro v h2 ⟨e2,rfl⟩) | refine Qo rfl ?_ | refine XV rfl rfl (by omega) ?_ | refine XD rfl rfl (by omega) ?_))
  refine QB (j:=k) (by omega) ⟨r*a%p,a*a%p,e / 2,?_,?_,hp2,by omega,hX,(x.trans e1).trans e2,c31.ext e2,?_⟩
  ·have:=GU (r*a) hp.1;omega
  ·have:=GU (a*a) hp.1;omega
  ·show [(1,some (u (a*a%p))),(2,some (.sc (.int .u64 ((e:Int) / ((2 ^ 1:Nat):Int))))),(3,_),(7,_)]=_
   rw [hsh];rfl
 ·have h1:(e:Int)%((2 ^ 1:Nat):Int)=0:=by omega
  rw [if_neg ho] at hX
  repeat' (first | refine Qg ?_ | refine Qb ?_ | refine Qv ?_ | refine QJ ?_ | refine Qn ?_ | refine Qf ?_ | ((refine Qh ?_);first | refine Qj rfl ?_ | refine Qk rfl ?_) | ((refine Qe ?_);first | refine QG rfl rfl rfl rfl ?_ | refine QU rfl rfl rfl rfl rfl ?_) | ((refine Qc ?_);first | refine Qat (q:=1) rfl rfl (by omega) (by omega) rfl ?_ | refine XN (q:=1) rfl rfl rfl (by omega) ?_ | refine QI rfl c3' ?_ | (refine Qi rfl (k2 _) ?_;rintro v h2 ⟨e2,rfl⟩) | refine Qo rfl ?_ | refine XV rfl rfl (by omega) ?_ | refine Xf rfl rfl (by omega) ?_))
  refine QB (j:=k) (by omega) ⟨r,a*a%p,e / 2,hr,?_,hp2,by omega,hX,x.trans e2,c3.ext e2,?_⟩
  ·have:=GU (a*a) hp.1;omega
  ·show [(1,some (u (a*a%p))),(2,some (.sc (.int .u64 ((e:Int) / ((2 ^ 1:Nat):Int))))),(3,_),(7,_)]=_
   rw [hsh];rfl
theorem yJ (h0:Qa) (p g a e:Nat) (hp:0 < p∧p < 18446744073709551616) (ha:a < 18446744073709551616) (he:e < 18446744073709551616):∃ r h',Cal FT HKt 119 [fld p g,u a,u e] h0 r h'∧Ext h0 h'∧r=u (YI p 64 1 a e):=by
 refine Cal.of (F:=a119) rfl rfl rfl ?_
 repeat' (first | refine Qg ?_ | refine Qb ?_ | refine Qv ?_ | refine Qf ?_ | ((refine Qe ?_);first | refine Qu rfl rfl rfl ?_ | refine QG rfl rfl rfl rfl ?_) | ((refine Qc ?_);first | (refine Qx rfl ?_;intro h1 e1 c1) | refine Qo rfl ?_))
 refine Q9 (I119 h0 h0.length p g (YI p 64 1 a e)) 64 (R119 h0 (YI p 64 1 a e)) ⟨1,a,e,by omega,ha,he,Gf _,rfl,e1,c1,rfl⟩ (QfR h0 h0.length p g _ hp) ?_
 rintro ex E' h2 ⟨rfl,x2,_,_,_,_,rfl⟩
 repeat' (first | refine Qg ?_ | refine Qb ?_ | refine QP ?_ | refine Qt ?_ | refine Qf ?_ | ((refine Qe ?_);refine Qq rfl ?_) | ((refine Qc ?_);refine Qo rfl ?_))
 exact ⟨.inr rfl,x2,rfl⟩
def sqM (p m:Nat):Nat→Nat→Bool
 | 0,a=>a == m
 | n+1,a=>if a=m then true else frc (a*a%p) fun a'=>sqM p m n a'
def mrB (n s d b:Nat):Bool:=frc (YI n 64 1 b d) fun a=>if a=1 then true else sqM n (n-1) (s-1) a
def basesL:List Nat:=[2,3,5,7,11,13,17,19,23,29,31,37]
def prM (n:Nat):Bool:=frc (Lib.ctz 64 (n-1)) fun s=>frc ((n-1) / 2 ^ s) fun d=>basesL.all fun b=>mrB n s d b
def Qh7 (h0:Qa) (q3 n s:Nat) (X:Bool) (b14 b15:AV) (k:Nat) (E:Env) (h:Qa):Prop:=∃ a i:Nat,a < 18446744073709551616∧k=s-i∧1≤i∧sqM n (n-1) (s-i) a=X∧Ext h0 h∧Cel h q3 (.int .u64 (n:Nat)) (.int .u64 0) ∧
 E.keep [0,3,4,7,8,14,15]=[(0,some (u n)),(3,some (.sc (.ptr q3 0))),(4,some (.sc (.int .i64 (s:Nat)))),(7,some (u a)),(8,some (.sc (.int .i64 (i:Nat)))),(14,some b14),(15,some b15)]
def QkU (h0:Qa) (q3 n s:Nat) (X:Bool) (b14 b15:AV) (ex:Ex) (E:Env) (h:Qa):Prop:=ex=.ex 2∧Ext h0 h∧Cel h q3 (.int .u64 (n:Nat)) (.int .u64 0)∧∃ (a:Nat) (c d:Option AV),a < 18446744073709551616∧(a == n-1)=X ∧
 E=[(0,some (u n)),(3,some (.sc (.ptr q3 0))),(4,some (.sc (.int .i64 (s:Nat)))),(7,some (u a)),(8,c),(14,some b14),(15,some b15),(35,d)]
theorem Qem (h0:Qa) (q3 n s:Nat) (X:Bool) (b14 b15:AV) (hn:2 < n∧n < 18446744073709551616) (hs:s≤64) (k:Nat) (E:Env) (h:Qa) (hI:Qh7 h0 q3 n s X b14 b15 k E h) :
  wA FT HKt Qhw (E.keep [0,3,4,7,8,14,15]) h (Qp (Qh7 h0 q3 n s X b14 b15) k (QkU h0 q3 n s X b14 b15)):=by
 obtain ⟨a,i,ha,rfl,hi,hX,x,c3,hE⟩:=hI
 rw [hE]
 have c3':Cel h q3 (.int .u64 (n:Nat)) (.int .u64 (0:Nat)):=c3
 by_cases h1:i < s
 ·obtain ⟨k,hk⟩:∃ k,s-i=k+1:=⟨s-i-1,by omega⟩
  rw [hk] at hX ⊢
  by_cases h2:a=n-1
  ·unfold sqM at hX
   rw [if_pos h2] at hX
   repeat' (first | refine Qg ?_ | refine Qb ?_ | refine Q0 ?_ | refine QX ?_ | refine Qf ?_ | ((refine Qh ?_);refine Qk rfl ?_) | ((refine Qe ?_);refine Xa rfl rfl rfl rfl rfl rfl rfl rfl ?_) | ((refine Qc ?_);first | refine XJ rfl rfl (by omega) ?_ | refine QL rfl ?_ | refine Qo rfl ?_ | refine QS rfl rfl ?_ | refine Qy rfl rfl (by omega) ?_ | refine XS rfl rfl (by omega) ?_))
   exact QN ⟨rfl,x,c3,a,_,_,ha,by rw [← hX];simp [h2],rfl⟩
  ·unfold sqM at hX
   rw [if_neg h2,Yn] at hX
   have k98:=fun H=>YY H n 0 a a ⟨by omega,hn.2⟩ ha ha
   repeat' (first | refine Qg ?_ | refine Qb ?_ | refine Qv ?_ | refine QJ ?_ | refine Qn ?_ | refine Qf ?_ | ((refine Qh ?_);refine Qj rfl ?_) | ((refine Qe ?_);first | refine Xn rfl rfl rfl rfl rfl rfl rfl ?_ | refine Xa rfl rfl rfl rfl rfl rfl rfl rfl ?_) | ((refine Qc ?_);first | refine XJ rfl rfl (by omega) ?_ | refine QI rfl c3' ?_ | (refine Qi rfl (k98 _) ?_;rintro v h2 ⟨e2,rfl⟩) | refine QL rfl ?_ | refine Qo rfl ?_ | refine QS rfl rfl ?_ | refine QK rfl rfl (by omega) ?_ | refine Qy rfl rfl (by omega) ?_ | refine Yg rfl rfl (by omega) ?_))
   refine QB (j:=s-(i+1)) (by omega) ⟨a*a%n,i+1,?_,rfl,by omega,?_,x.trans e2,c3.ext e2,rfl⟩
   ·have:=GU (a*a) (show 0 < n by omega);omega
   ·rw [← hX,show s-(i+1)=k by omega]
 ·rw [show s-i=0 by omega] at hX ⊢
  have hX':(a == n-1)=X:=hX
  repeat' (first | refine Qg ?_ | refine Qb ?_ | refine Q0 ?_ | refine QX ?_ | refine Qf ?_ | ((refine Qh ?_);refine Qk rfl ?_) | ((refine Qe ?_);refine Xa rfl rfl rfl rfl rfl rfl rfl rfl ?_) | ((refine Qc ?_);first | refine Xd rfl ?_ | refine Qo rfl ?_ | refine QC rfl rfl ?_ | refine QM rfl rfl (by omega) ?_))
  exact QN ⟨rfl,x,c3,a,_,_,ha,hX',rfl⟩
section
variable {FT:FuncId→Option AFun} {HK:FuncId→Option Xj} {E:Env} {h:Qa} {K:Env→Qa→Prop} {d:Option Nat} {r:List AOp} {x y:AO}
theorem QdA {n j:Nat} {cs:List SV} {v:SV} (hx:ev E x=some (.agg cs)) (hi:evS E y=some (.int .i64 (j:Nat))) (hj:j < n) (hc:cut cs (j*1) 1=some [v]) (hw:Ql FT HK r (Qr d (some (.sc v))  E) h K):Ql FT HK (⟨d,.idxG n 1 false x y,none⟩::r) E h K:=by
 refine Xe (v:=some (.sc v)) (h':=h) rfl rfl ?_ hw
 simp only [Qm,hx,hi]
 rw [if_pos ⟨by omega,by omega⟩,Int.toNat_natCast,hc];rfl
end
abbrev UZ:List SV:=basesL.map fun b=>.int .u64 (b:Nat)
def I118 (h0:Qa) (q3 n s:Nat) (k:Nat) (E:Env) (h:Qa):Prop:=∃ i:Nat,i≤12∧k=12-i∧(basesL.take i).all (fun b=>mrB n s ((n-1) / 2 ^ s) b)=true∧Ext h0 h∧Cel h q3 (.int .u64 (n:Nat)) (.int .u64 0) ∧
 E.keep [0,3,4,14,15]=[(0,some (u n)),(3,some (.sc (.ptr q3 0))),(4,some (.sc (.int .i64 (s:Nat)))),(14,some (.agg UZ)),(15,some (.sc (.int .i64 (i:Nat))))]
def R118 (h0:Qa) (n s:Nat) (ex:Ex) (E:Env) (h:Qa):Prop:=Ext h0 h∧((ex=.ex 0∧basesL.all (fun b=>mrB n s ((n-1) / 2 ^ s) b)=true)∨(ex=.rt∧basesL.all (fun b=>mrB n s ((n-1) / 2 ^ s) b)=false∧E=[(2,some (.sc (.bool false)))]))
theorem QfS (h0:Qa) (q3 n s:Nat) (hn:2 < n∧n < 18446744073709551616) (hs:s≤64) (k:Nat) (E:Env) (h:Qa) (hI:I118 h0 q3 n s k E h) :
  wA FT HKt Qhx (E.keep [0,3,4,14,15]) h (Qp (I118 h0 q3 n s) k (R118 h0 n s)):=by
 obtain ⟨i,hi,rfl,hall,x,c3,hE⟩:=hI
 rw [hE]
 have c3':Cel h q3 (.int .u64 (n:Nat)) (.int .u64 (0:Nat)):=c3
 by_cases h1:i < 12
 ·obtain ⟨b,hb⟩:∃ b,basesL[i]?=some b:=⟨_,Ga (show i < basesL.length from h1)⟩
  have hbl:b < 18446744073709551616:=by
   have:∀ c∈basesL,c < 18446744073709551616:=by decide
   exact this b (Gh hb)
  have hcut:cut UZ (i*1) 1=some [.int .u64 (b:Nat)]:=by
   have:∀ j,j < 12→cut UZ (j*1) 1=some [.int .u64 ((basesL.getD j 0:Nat):Int)]:=by decide
   rw [this i h1,Ge,hb];rfl
  have hd:(n-1) / 2 ^ s < 18446744073709551616:=Nat.lt_of_le_of_lt (Nat.div_le_self _ _) (by omega)
  have k119:=fun H=>yJ H n 0 b ((n-1) / 2 ^ s) ⟨by omega,hn.2⟩ hbl hd
  have hsd:((n:Int)-1) / ((2 ^ s:Nat):Int)=(((n-1) / 2 ^ s:Nat):Int):=by
   rw [show (n:Int)-1=((n-1:Nat):Int) by omega];rfl
  have tk:basesL.take (i+1)=basesL.take i++[b]:=by rw [GF,hb];rfl
  have hmr:mrB n s ((n-1) / 2 ^ s) b=if YI n 64 1 b ((n-1) / 2 ^ s)=1 then true else sqM n (n-1) (s-1) (YI n 64 1 b ((n-1) / 2 ^ s)):=by unfold mrB;rw [Yn]
  have hal:YI n 64 1 b ((n-1) / 2 ^ s) < 18446744073709551616:=Qdi n (by omega) 64 1 b _ (by omega) hn.2
  generalize hA:YI n 64 1 b ((n-1) / 2 ^ s)=A at *
  have next:mrB n s ((n-1) / 2 ^ s) b=true→(basesL.take (i+1)).all (fun b=>mrB n s ((n-1) / 2 ^ s) b)=true:=fun e=>by
   rw [tk,List.all_append,hall];simp [e]
  by_cases hA1:A=1
  ·rw [if_pos hA1] at hmr
   repeat' (first | refine Qg ?_ | refine Qb ?_ | refine Q0 ?_ | refine Qv ?_ | refine QP ?_ | refine Qn ?_ | refine QX ?_ | refine Qf ?_ | refine Q2 ?_ | refine Xk ?_ | refine Xl ?_ | ((refine Qh ?_);refine Qj rfl ?_) | ((refine Qe ?_);first | refine Q1 ?_ | refine Xw ?_ | refine QU rfl rfl rfl rfl rfl ?_ | refine QT rfl rfl rfl rfl rfl rfl ?_ | refine Xn rfl rfl rfl rfl rfl rfl rfl ?_) | ((refine Qc ?_);first | refine QdA rfl rfl h1 hcut ?_ | refine XJ rfl rfl (by omega) ?_ | (refine XN (q:=s) rfl rfl rfl hs ?_;rw [hsd]) | refine QI rfl c3' ?_ | (refine Qi rfl (k119 _) ?_;rintro v h2 ⟨e2,rfl⟩) | refine Qo rfl ?_ | refine QK rfl rfl (by omega) ?_ | refine Qy rfl rfl (by omega) ?_ | refine XD rfl rfl (by omega) ?_))
   exact QB (j:=12-(i+1)) (by omega) ⟨i+1,by omega,rfl,next hmr,x.trans e2,c3.ext e2,rfl⟩
  ·rw [if_neg hA1] at hmr
   repeat' (first | refine Qg ?_ | refine Qb ?_ | refine Qv ?_ | refine Qn ?_ | refine Qf ?_ | refine Q2 ?_ | refine Xk ?_ | refine Xl ?_ | ((refine Qh ?_);first | refine Qj rfl ?_ | refine Qk rfl ?_) | ((refine Qe ?_);first | refine Q1 ?_ | refine Xw ?_ | refine QT rfl rfl rfl rfl rfl rfl ?_ | refine Xn rfl rfl rfl rfl rfl rfl rfl ?_) | ((refine Qc ?_);first | refine QdA rfl rfl h1 hcut ?_ | refine XJ rfl rfl (by omega) ?_ | (refine XN (q:=s) rfl rfl rfl hs ?_;rw [hsd]) | refine QI rfl c3' ?_ | (refine Qi rfl (k119 _) ?_;rintro v h2 ⟨e2,rfl⟩) | refine Qo rfl ?_ | refine Qy rfl rfl (by omega) ?_ | refine Xf rfl rfl (by omega) ?_))
   refine Q9 (Qh7 h0 q3 n s (sqM n (n-1) (s-1) A) (.agg UZ) (.sc (.int .i64 (i:Nat)))) (s-1) (QkU h0 q3 n s (sqM n (n-1) (s-1) A) (.agg UZ) (.sc (.int .i64 (i:Nat)))) ⟨A,1,hal,rfl,Gf _,rfl,x.trans e2,c3.ext e2,rfl⟩ (Qem h0 q3 n s _ _ _ hn hs) ?_
   rintro ex E' h3 ⟨rfl,x3,c33,a,_,_,ha,hX,rfl⟩
   by_cases hf:a=n-1
   ·have:sqM n (n-1) (s-1) A=true:=by rw [← hX];simp [hf]
    rw [this] at hmr
    repeat' (first | refine Qg ?_ | refine Qb ?_ | refine QJ ?_ | refine QP ?_ | refine Qn ?_ | refine Qf ?_ | ((refine Qh ?_);refine Qk rfl ?_) | ((refine Qe ?_);first | refine QU rfl rfl rfl rfl rfl ?_ | refine QT rfl rfl rfl rfl rfl rfl ?_) | ((refine Qc ?_);first | refine XJ rfl rfl (by omega) ?_ | refine Qo rfl ?_ | refine QK rfl rfl (by omega) ?_ | refine XS rfl rfl (by omega) ?_))
    exact QB (j:=12-(i+1)) (by omega) ⟨i+1,by omega,rfl,next hmr,x3,c33,rfl⟩
   ·have:sqM n (n-1) (s-1) A=false:=by rw [← hX];simp [hf]
    rw [this] at hmr
    repeat' (first | refine Qg ?_ | refine Qb ?_ | refine QD ?_ | refine QP ?_ | refine Xs ?_ | refine Qt ?_ | refine Qf ?_ | ((refine Qh ?_);refine Qj rfl ?_) | ((refine Qe ?_);first | refine Qq rfl ?_ | refine QT rfl rfl rfl rfl rfl rfl ?_) | ((refine Qc ?_);first | refine XJ rfl rfl (by omega) ?_ | refine Qo rfl ?_ | refine Yg rfl rfl (by omega) ?_))
    refine XI ⟨x3,.inr ⟨rfl,?_,rfl⟩⟩
    exact List.all_eq_false.2 ⟨b,Gh hb,by rw [hmr];simp⟩
 ·have:i=12:=by omega
  subst this
  repeat' (first | refine Qg ?_ | refine Qb ?_ | refine Q0 ?_ | refine QX ?_ | refine Qf ?_ | ((refine Qh ?_);refine Qk rfl ?_) | ((refine Qe ?_);refine QT rfl rfl rfl rfl rfl rfl ?_) | ((refine Qc ?_);refine QM rfl rfl (by omega) ?_))
  exact QN ⟨x,.inl ⟨rfl,hall⟩⟩
theorem Qmf (x:Nat):Lib.ctz 64 x≤64:=by
 have key:∀ f x,Lib.ctzFrom f x≤f:=by
  intro f
  induction f with
  | zero=>intro x;exact Gf _
  | succ f ih => intro x; unfold Lib.ctzFrom; split
                 ·omega
                 ·have:=ih (x / 2);omega
 unfold Lib.ctz
 split
 ·omega
 ·exact key 64 x
theorem QlI (n:Nat):prM n=basesL.all fun b=>mrB n (Lib.ctz 64 (n-1)) ((n-1) / 2 ^ Lib.ctz 64 (n-1)) b:=by
 unfold prM;rw [Yn,Yn]
theorem QdR (h0:Qa) (n:Nat) (hn:2 < n∧n < 18446744073709551616):∃ r h',Cal FT HKt 118 [u n] h0 r h'∧Ext h0 h'∧r=.sc (.bool (prM n)):=by
 refine Cal.of (F:=a118) rfl rfl rfl ?_
 have k138:=fun H=>Qix (h:=H) (n-1) (by omega)
 have hs:=Qmf (n-1)
 rw [QlI]
 generalize hs':Lib.ctz 64 (n-1)=s at *
 have e1':((n:Int)-1)=((n-1:Nat):Int):=by omega
 repeat' (first | refine Qg ?_ | refine Qb ?_ | refine Qv ?_ | refine Qf ?_ | ((refine Qe ?_);first | refine Qq rfl ?_ | refine QE rfl rfl ?_ | refine Qu rfl rfl rfl ?_ | refine QU rfl rfl rfl rfl rfl ?_) | ((refine Qc ?_);first | (refine Yd rfl ?_;intro h1 e1 c1) | refine XE rfl rfl ?_ | (refine XJ rfl rfl (by omega) ?_;rw [e1']) | (refine Qi rfl (k138 _) ?_;rintro v _ ⟨rfl,rfl⟩) | refine Qo rfl ?_))
 refine Q9 (I118 h0 h0.length n s) 12 (R118 h0 n s) ⟨0,Gs _,rfl,by simp,e1,c1,rfl⟩ (QfS h0 h0.length n s hn hs) ?_
 rintro ex E' h2 ⟨x2,⟨rfl,hall⟩ | ⟨rfl,hall,rfl⟩⟩
 ·rw [hall]
  repeat' (first | refine Qg ?_ | refine Qb ?_ | refine QP ?_ | refine Qt ?_ | refine Qf ?_ | ((refine Qe ?_);refine Qq rfl ?_) | ((refine Qc ?_);refine Qo rfl ?_))
  exact ⟨.inr rfl,x2,rfl⟩
 ·rw [hall]
  repeat' (first | refine QD ?_ | refine Xs ?_)
  exact ⟨.inr rfl,x2,rfl⟩
