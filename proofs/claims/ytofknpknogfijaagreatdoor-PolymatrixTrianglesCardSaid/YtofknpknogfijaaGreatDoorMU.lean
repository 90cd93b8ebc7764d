/- The field's products and powers,and the test of primes: contracts. -/
import Derived.Test.YtofknpknogfijaaGreatDoorPY
namespace Go.Proofs.YtofknpknogfijaaGreatDoor
open Go.Ab
set_option linter.unusedVariables false
set_option linter.unusedSimpArgs false
set_option maxRecDepth 20000
set_option maxHeartbeats 4000000
attribute [local irreducible] Qi wA Xk Xj Qz Qo QS QV
set_option linter.unusedSectionVars false
variable [HB]
abbrev fld (p g:Nat):AV:=.agg [.int .u64 (p:Nat),.int .u64 (g:Nat)]
abbrev u (n:Nat):AV:=.sc (.int .u64 (n:Nat))
theorem Y5 (h0:Qa) (p g a b:Nat) (hp:0 < p∧p < 18446744073709551616) (ha:a < 18446744073709551616) (hb:b < 18446744073709551616):∃ r h',Cal FT HKt 98 [fld p g,u a,u b] h0 r h'∧Ext h0 h'∧r=u (a*b%p):=by
  refine Cal.of (F:=a98) rfl rfl rfl ?_
  have k103:=fun H=>Qce H (a:Int) (b:Int) ⟨by omega,by omega⟩ ⟨by omega,by omega⟩
  rw [← Int.natCast_mul] at k103
  have hlt:a*b < 18446744073709551616*18446744073709551616:=Nat.mul_lt_mul'' ha hb
  generalize hm:a*b=m at *
  have k124:=fun H=>Qg1 H (m / 18446744073709551616) (m%18446744073709551616) p (by omega) (by omega) hp
  rw [show m / 18446744073709551616*18446744073709551616+m%18446744073709551616=m by omega] at k124
  rw [show ((m:Nat):Int) / 18446744073709551616=((m / 18446744073709551616:Nat):Int) by omega,show ((m:Nat):Int)%18446744073709551616=((m%18446744073709551616:Nat):Int) by omega] at k103
  repeat' (first | refine Qh ?_ | refine Qb ?_ | refine Qs ?_ | refine Qf ?_ | ((refine Qe ?_);first | refine Qr rfl ?_ | refine Qy rfl rfl rfl ?_) | ((refine Qc ?_);first | (refine QR rfl ?_;intro h1 e1 c1) | (refine Qm rfl (k103 _) ?_;rintro v _ ⟨rfl,rfl⟩) | refine Xr rfl ?_ | refine Q4 rfl c1 ?_ | (refine Qm rfl (k124 _) ?_;rintro v _ ⟨rfl,rfl⟩) | refine Qp rfl ?_ | refine XF rfl rfl ?_))
  exact ⟨.inr rfl,e1,rfl⟩
def YK (p:Nat):Nat→Nat→Nat→Nat→Nat
  | 0,r,_,_=>r
  | n+1,r,a,e=>if e=0 then r else frc (if e%2=1 then r*a%p else r) fun r'=>frc (a*a%p) fun a'=>frc (e / 2) fun e'=>YK p n r' a' e'
theorem Z2 (p n r a e:Nat):YK p (n+1) r a e=if e=0 then r else YK p n (if e%2=1 then r*a%p else r) (a*a%p) (e / 2):=by
  simp only [YK,Yl]
theorem QcT (p n r a:Nat):YK p n r a 0=r:=by
  cases n
  · rfl
  · rw [Z2,if_pos rfl]
theorem QbK (p:Nat) (hp:0 < p):∀ (n r a e:Nat),r < 18446744073709551616→p < 18446744073709551616→YK p n r a e < 18446744073709551616
  | 0,r,a,e,h,_=>h
  | n+1,r,a,e,h,h2=>by
    rw [Z2]
    split
    · exact h
    · refine QbK p hp n _ _ _ ?_ h2
      split
      · have:=Nat.mod_lt (r*a) hp;omega
      · exact h
def I119 (h0:Qa) (q3 p g X:Nat) (k:Nat) (E:Env) (h:Qa):Prop:=∃ r a e:Nat,r < 18446744073709551616∧a < 18446744073709551616∧e < 2 ^ k∧k≤64∧YK p k r a e=X∧Ext h0 h∧Cel h q3 (.int .u64 (p:Nat)) (.int .u64 (g:Nat)) ∧
  E.keep [1,2,3,7]=[(1,some (u a)),(2,some (u e)),(3,some (.sc (.ptr q3 0))),(7,some (u r))]
def R119 (h0:Qa) (X:Nat) (ex:Ex) (E:Env) (h:Qa):Prop:=ex=.ex 0∧Ext h0 h∧∃ a b c d,E=[(1,a),(2,b),(3,c),(7,some (u X)),(9,d)]
theorem QdN (h0:Qa) (q3 p g X:Nat) (hp:0 < p∧p < 18446744073709551616) (k:Nat) (E:Env) (h:Qa) (hI:I119 h0 q3 p g X k E h) :
    wA FT HKt Qe3 (E.keep [1,2,3,7]) h (Qo (I119 h0 q3 p g X) k (R119 h0 X)):=by
  obtain ⟨r,a,e,hr,ha,he,hk,hX,x,c3,hE⟩:=hI
  rw [hE]
  have he64:e < 18446744073709551616:=Nat.lt_of_lt_of_le he (Nat.pow_le_pow_right (by decide) hk)
  have c3':Cel h q3 (.int .u64 (p:Nat)) (.int .u64 (g:Nat)):=c3
  by_cases h0':e=0
  · subst h0'
    rw [QcT] at hX
    subst hX
    repeat' (first | refine Qh ?_ | refine Qb ?_ | refine QP ?_ | refine QL ?_ | refine Qf ?_ | ((refine Qg ?_);refine Qj rfl ?_) | ((refine Qe ?_);refine QU rfl rfl rfl rfl rfl ?_) | ((refine Qc ?_);first | refine Qp rfl ?_ | refine Xq rfl rfl (by omega) ?_))
    exact QG ⟨rfl,x,_,_,_,_,rfl⟩
  cases k with
  | zero=>simp at he;omega
  | succ k =>
  rw [Z2,if_neg h0'] at hX
  have k2:=fun H=>Y5 H p g a a hp ha ha
  have k1:=fun H=>Y5 H p g r a hp hr ha
  have hsh:(e:Int) / ((2 ^ 1:Nat):Int)=((e / 2:Nat):Int):=by omega
  have hp2:e / 2 < 2 ^ k:=by rw [Nat.pow_succ] at he;omega
  by_cases ho:e%2=1
  · have h1:(e:Int)%((2 ^ 1:Nat):Int)=1:=by omega
    rw [if_pos ho] at hX
    repeat' (first | refine Qh ?_ | refine Qb ?_ | refine Qt ?_ | refine QC ?_ | refine Qn ?_ | refine Qf ?_ | ((refine Qg ?_);refine Qk rfl ?_) | ((refine Qe ?_);first | refine QQ rfl rfl rfl rfl ?_ | refine QU rfl rfl rfl rfl rfl ?_) | ((refine Qc ?_);first | refine Vd (q:=1) rfl rfl (by omega) (by omega) rfl ?_ | refine XL (q:=1) rfl rfl rfl (by omega) ?_ | refine QN rfl c3' ?_ | (have z:=e1;refine QN rfl c31 ?_) | (refine Qm rfl (k1 _) ?_;rintro v h1 ⟨e1,rfl⟩;have c31:=c3.ext e1) | (refine Qm rfl (k2 _) ?_;rintro v h2 ⟨e2,rfl⟩) | refine Qp rfl ?_ | refine XA rfl rfl (by omega) ?_ | refine Xw rfl rfl (by omega) ?_))
    refine Qu (j:=k) (by omega) ⟨r*a%p,a*a%p,e / 2,?_,?_,hp2,by omega,hX,(x.trans e1).trans e2,c31.ext e2,?_⟩
    · have:=Nat.mod_lt (r*a) hp.1;omega
    · have:=Nat.mod_lt (a*a) hp.1;omega
    · show [(1,some (u (a*a%p))),(2,some (.sc (.int .u64 ((e:Int) / ((2 ^ 1:Nat):Int))))),(3,_),(7,_)]=_
      rw [hsh];rfl
  · have h1:(e:Int)%((2 ^ 1:Nat):Int)=0:=by omega
    rw [if_neg ho] at hX
    repeat' (first | refine Qh ?_ | refine Qb ?_ | refine Qt ?_ | refine QC ?_ | refine Qn ?_ | refine Qf ?_ | ((refine Qg ?_);first | refine Qk rfl ?_ | refine Qj rfl ?_) | ((refine Qe ?_);first | refine QQ rfl rfl rfl rfl ?_ | refine QU rfl rfl rfl rfl rfl ?_) | ((refine Qc ?_);first | refine Vd (q:=1) rfl rfl (by omega) (by omega) rfl ?_ | refine XL (q:=1) rfl rfl rfl (by omega) ?_ | refine QN rfl c3' ?_ | (refine Qm rfl (k2 _) ?_;rintro v h2 ⟨e2,rfl⟩) | refine Qp rfl ?_ | refine XA rfl rfl (by omega) ?_ | refine Xa rfl rfl (by omega) ?_))
    refine Qu (j:=k) (by omega) ⟨r,a*a%p,e / 2,hr,?_,hp2,by omega,hX,x.trans e2,c3.ext e2,?_⟩
    · have:=Nat.mod_lt (a*a) hp.1;omega
    · show [(1,some (u (a*a%p))),(2,some (.sc (.int .u64 ((e:Int) / ((2 ^ 1:Nat):Int))))),(3,_),(7,_)]=_
      rw [hsh];rfl
theorem yh (h0:Qa) (p g a e:Nat) (hp:0 < p∧p < 18446744073709551616) (ha:a < 18446744073709551616) (he:e < 18446744073709551616):∃ r h',Cal FT HKt 119 [fld p g,u a,u e] h0 r h'∧Ext h0 h'∧r=u (YK p 64 1 a e):=by
  refine Cal.of (F:=a119) rfl rfl rfl ?_
  repeat' (first | refine Qh ?_ | refine Qb ?_ | refine Qt ?_ | refine Qf ?_ | ((refine Qe ?_);first | refine Qy rfl rfl rfl ?_ | refine QQ rfl rfl rfl rfl ?_) | ((refine Qc ?_);first | (refine QR rfl ?_;intro h1 e1 c1) | refine Qp rfl ?_))
  refine Q2 (I119 h0 h0.length p g (YK p 64 1 a e)) 64 (R119 h0 (YK p 64 1 a e)) ⟨1,a,e,by omega,ha,he,Nat.le_refl _,rfl,e1,c1,rfl⟩ (QdN h0 h0.length p g _ hp) ?_
  rintro ex E' h2 ⟨rfl,x2,_,_,_,_,rfl⟩
  repeat' (first | refine Qh ?_ | refine Qb ?_ | refine QE ?_ | refine Qs ?_ | refine Qf ?_ | ((refine Qe ?_);refine Qr rfl ?_) | ((refine Qc ?_);refine Qp rfl ?_))
  exact ⟨.inr rfl,x2,rfl⟩
def sqM (p m:Nat):Nat→Nat→Bool
  | 0,a=>a == m
  | n+1,a=>if a=m then true else frc (a*a%p) fun a'=>sqM p m n a'
def mrB (n s d b:Nat):Bool:=frc (YK n 64 1 b d) fun a=>if a=1 then true else sqM n (n-1) (s-1) a
def basesL:List Nat:=[2,3,5,7,11,13,17,19,23,29,31,37]
def prM (n:Nat):Bool:=frc (Lib.ctz 64 (n-1)) fun s=>frc ((n-1) / 2 ^ s) fun d=>basesL.all fun b=>mrB n s d b
def QfC (h0:Qa) (q3 n s:Nat) (X:Bool) (b14 b15:AV) (k:Nat) (E:Env) (h:Qa):Prop:=∃ a i:Nat,a < 18446744073709551616∧k=s-i∧1≤i∧sqM n (n-1) (s-i) a=X∧Ext h0 h∧Cel h q3 (.int .u64 (n:Nat)) (.int .u64 0) ∧
  E.keep [0,3,4,7,8,14,15]=[(0,some (u n)),(3,some (.sc (.ptr q3 0))),(4,some (.sc (.int .i64 (s:Nat)))),(7,some (u a)),(8,some (.sc (.int .i64 (i:Nat)))),(14,some b14),(15,some b15)]
def Qh4 (h0:Qa) (q3 n s:Nat) (X:Bool) (b14 b15:AV) (ex:Ex) (E:Env) (h:Qa):Prop:=ex=.ex 2∧Ext h0 h∧Cel h q3 (.int .u64 (n:Nat)) (.int .u64 0)∧∃ (a:Nat) (c d:Option AV),a < 18446744073709551616∧(a == n-1)=X ∧
  E=[(0,some (u n)),(3,some (.sc (.ptr q3 0))),(4,some (.sc (.int .i64 (s:Nat)))),(7,some (u a)),(8,c),(14,some b14),(15,some b15),(35,d)]
theorem QcA (h0:Qa) (q3 n s:Nat) (X:Bool) (b14 b15:AV) (hn:2 < n∧n < 18446744073709551616) (hs:s≤64) (k:Nat) (E:Env) (h:Qa) (hI:QfC h0 q3 n s X b14 b15 k E h) :
    wA FT HKt Qe4 (E.keep [0,3,4,7,8,14,15]) h (Qo (QfC h0 q3 n s X b14 b15) k (Qh4 h0 q3 n s X b14 b15)):=by
  obtain ⟨a,i,ha,rfl,hi,hX,x,c3,hE⟩:=hI
  rw [hE]
  have c3':Cel h q3 (.int .u64 (n:Nat)) (.int .u64 (0:Nat)):=c3
  by_cases h1:i < s
  · obtain ⟨k,hk⟩:∃ k,s-i=k+1:=⟨s-i-1,by omega⟩
    rw [hk] at hX ⊢
    by_cases h2:a=n-1
    · unfold sqM at hX
      rw [if_pos h2] at hX
      repeat' (first | refine Qh ?_ | refine Qb ?_ | refine QP ?_ | refine QL ?_ | refine Qf ?_ | ((refine Qg ?_);refine Qj rfl ?_) | ((refine Qe ?_);refine Q5 rfl rfl rfl rfl rfl rfl rfl rfl ?_) | ((refine Qc ?_);first | refine XG rfl rfl (by omega) ?_ | refine QY rfl ?_ | refine Qp rfl ?_ | refine Q1 rfl rfl ?_ | refine Qx rfl rfl (by omega) ?_ | refine XJ rfl rfl (by omega) ?_))
      exact QG ⟨rfl,x,c3,a,_,_,ha,by rw [← hX];simp [h2],rfl⟩
    · unfold sqM at hX
      rw [if_neg h2,Yl] at hX
      have k98:=fun H=>Y5 H n 0 a a ⟨by omega,hn.2⟩ ha ha
      repeat' (first | refine Qh ?_ | refine Qb ?_ | refine Qt ?_ | refine QC ?_ | refine Qn ?_ | refine Qf ?_ | ((refine Qg ?_);refine Qk rfl ?_) | ((refine Qe ?_);first | refine Q7 rfl rfl rfl rfl rfl rfl rfl ?_ | refine Q5 rfl rfl rfl rfl rfl rfl rfl rfl ?_) | ((refine Qc ?_);first | refine XG rfl rfl (by omega) ?_ | refine QN rfl c3' ?_ | (refine Qm rfl (k98 _) ?_;rintro v h2 ⟨e2,rfl⟩) | refine QY rfl ?_ | refine Qp rfl ?_ | refine Q1 rfl rfl ?_ | refine QK rfl rfl (by omega) ?_ | refine Qx rfl rfl (by omega) ?_ | refine XX rfl rfl (by omega) ?_))
      refine Qu (j:=s-(i+1)) (by omega) ⟨a*a%n,i+1,?_,rfl,by omega,?_,x.trans e2,c3.ext e2,rfl⟩
      · have:=Nat.mod_lt (a*a) (show 0 < n by omega);omega
      · rw [← hX,show s-(i+1)=k by omega]
  · rw [show s-i=0 by omega] at hX ⊢
    have hX':(a == n-1)=X:=hX
    repeat' (first | refine Qh ?_ | refine Qb ?_ | refine QP ?_ | refine QL ?_ | refine Qf ?_ | ((refine Qg ?_);refine Qj rfl ?_) | ((refine Qe ?_);refine Q5 rfl rfl rfl rfl rfl rfl rfl rfl ?_) | ((refine Qc ?_);first | refine Xn rfl ?_ | refine Qp rfl ?_ | refine QT rfl rfl ?_ | refine QH rfl rfl (by omega) ?_))
    exact QG ⟨rfl,x,c3,a,_,_,ha,hX',rfl⟩
section
variable {FT:FuncId→Option AFun} {HK:FuncId→Option Xc} {E:Env} {h:Qa} {K:Env→Qa→Prop} {d:Option Nat} {r:List AOp} {x y:AO}
theorem Qb1 {n j:Nat} {cs:List SV} {v:SV} (hx:ev E x=some (.agg cs)) (hi:evS E y=some (.int .i64 (j:Nat))) (hj:j < n) (hc:cut cs (j*1) 1=some [v]) (hw:Qi FT HK r (Qq d (some (.sc v))  E) h K):Qi FT HK (⟨d,.idxG n 1 false x y,none⟩::r) E h K:=by
  refine Q8 (v:=some (.sc v)) (h':=h) rfl rfl ?_ hw
  simp only [Ql,hx,hi]
  rw [if_pos ⟨by omega,by omega⟩,Int.toNat_natCast,hc];rfl
end
abbrev z8:List SV:=basesL.map fun b=>.int .u64 (b:Nat)
def I118 (h0:Qa) (q3 n s:Nat) (k:Nat) (E:Env) (h:Qa):Prop:=∃ i:Nat,i≤12∧k=12-i∧(basesL.take i).all (fun b=>mrB n s ((n-1) / 2 ^ s) b)=true∧Ext h0 h∧Cel h q3 (.int .u64 (n:Nat)) (.int .u64 0) ∧
  E.keep [0,3,4,14,15]=[(0,some (u n)),(3,some (.sc (.ptr q3 0))),(4,some (.sc (.int .i64 (s:Nat)))),(14,some (.agg z8)),(15,some (.sc (.int .i64 (i:Nat))))]
def R118 (h0:Qa) (n s:Nat) (ex:Ex) (E:Env) (h:Qa):Prop:=Ext h0 h∧((ex=.ex 0∧basesL.all (fun b=>mrB n s ((n-1) / 2 ^ s) b)=true)∨(ex=.rt∧basesL.all (fun b=>mrB n s ((n-1) / 2 ^ s) b)=false∧E=[(2,some (.sc (.bool false)))]))
theorem QdO (h0:Qa) (q3 n s:Nat) (hn:2 < n∧n < 18446744073709551616) (hs:s≤64) (k:Nat) (E:Env) (h:Qa) (hI:I118 h0 q3 n s k E h) :
    wA FT HKt Qe5 (E.keep [0,3,4,14,15]) h (Qo (I118 h0 q3 n s) k (R118 h0 n s)):=by
  obtain ⟨i,hi,rfl,hall,x,c3,hE⟩:=hI
  rw [hE]
  have c3':Cel h q3 (.int .u64 (n:Nat)) (.int .u64 (0:Nat)):=c3
  by_cases h1:i < 12
  · obtain ⟨b,hb⟩:∃ b,basesL[i]?=some b:=⟨_,List.getElem?_eq_getElem (show i < basesL.length from h1)⟩
    have hbl:b < 18446744073709551616:=by
      have:∀ c∈basesL,c < 18446744073709551616:=by decide
      exact this b (List.mem_of_getElem? hb)
    have hcut:cut z8 (i*1) 1=some [.int .u64 (b:Nat)]:=by
      have:∀ j,j < 12→cut z8 (j*1) 1=some [.int .u64 ((basesL.getD j 0:Nat):Int)]:=by decide
      rw [this i h1,List.getD_eq_getElem?_getD,hb];rfl
    have hd:(n-1) / 2 ^ s < 18446744073709551616:=Nat.lt_of_le_of_lt (Nat.div_le_self _ _) (by omega)
    have k119:=fun H=>yh H n 0 b ((n-1) / 2 ^ s) ⟨by omega,hn.2⟩ hbl hd
    have hsd:((n:Int)-1) / ((2 ^ s:Nat):Int)=(((n-1) / 2 ^ s:Nat):Int):=by
      rw [show (n:Int)-1=((n-1:Nat):Int) by omega];rfl
    have tk:basesL.take (i+1)=basesL.take i++[b]:=by rw [List.take_add_one,hb];rfl
    have hmr:mrB n s ((n-1) / 2 ^ s) b=if YK n 64 1 b ((n-1) / 2 ^ s)=1 then true else sqM n (n-1) (s-1) (YK n 64 1 b ((n-1) / 2 ^ s)):=by unfold mrB;rw [Yl]
    have hal:YK n 64 1 b ((n-1) / 2 ^ s) < 18446744073709551616:=QbK n (by omega) 64 1 b _ (by omega) hn.2
    generalize hA:YK n 64 1 b ((n-1) / 2 ^ s)=A at *
    have next:mrB n s ((n-1) / 2 ^ s) b=true→(basesL.take (i+1)).all (fun b=>mrB n s ((n-1) / 2 ^ s) b)=true:=fun e=>by
      rw [tk,List.all_append,hall];simp [e]
    by_cases hA1:A=1
    · rw [if_pos hA1] at hmr
      repeat' (first | refine Qh ?_ | refine Qb ?_ | refine QP ?_ | refine Qt ?_ | refine QE ?_ | refine Qn ?_ | refine QL ?_ | refine Qf ?_ | refine Q9 ?_ | refine Xs ?_ | refine Xt ?_ | ((refine Qg ?_);refine Qk rfl ?_) | ((refine Qe ?_);first | refine Xb ?_ | refine XP ?_ | refine QU rfl rfl rfl rfl rfl ?_ | refine QM rfl rfl rfl rfl rfl rfl ?_ | refine Q7 rfl rfl rfl rfl rfl rfl rfl ?_) | ((refine Qc ?_);first | refine Qb1 rfl rfl h1 hcut ?_ | refine XG rfl rfl (by omega) ?_ | (refine XL (q:=s) rfl rfl rfl hs ?_;rw [hsd]) | refine QN rfl c3' ?_ | (refine Qm rfl (k119 _) ?_;rintro v h2 ⟨e2,rfl⟩) | refine Qp rfl ?_ | refine QK rfl rfl (by omega) ?_ | refine Qx rfl rfl (by omega) ?_ | refine Xw rfl rfl (by omega) ?_))
      exact Qu (j:=12-(i+1)) (by omega) ⟨i+1,by omega,rfl,next hmr,x.trans e2,c3.ext e2,rfl⟩
    · rw [if_neg hA1] at hmr
      repeat' (first | refine Qh ?_ | refine Qb ?_ | refine Qt ?_ | refine Qn ?_ | refine Qf ?_ | refine Q9 ?_ | refine Xs ?_ | refine Xt ?_ | ((refine Qg ?_);first | refine Qk rfl ?_ | refine Qj rfl ?_) | ((refine Qe ?_);first | refine Xb ?_ | refine XP ?_ | refine QM rfl rfl rfl rfl rfl rfl ?_ | refine Q7 rfl rfl rfl rfl rfl rfl rfl ?_) | ((refine Qc ?_);first | refine Qb1 rfl rfl h1 hcut ?_ | refine XG rfl rfl (by omega) ?_ | (refine XL (q:=s) rfl rfl rfl hs ?_;rw [hsd]) | refine QN rfl c3' ?_ | (refine Qm rfl (k119 _) ?_;rintro v h2 ⟨e2,rfl⟩) | refine Qp rfl ?_ | refine Qx rfl rfl (by omega) ?_ | refine Xa rfl rfl (by omega) ?_))
      refine Q2 (QfC h0 q3 n s (sqM n (n-1) (s-1) A) (.agg z8) (.sc (.int .i64 (i:Nat)))) (s-1) (Qh4 h0 q3 n s (sqM n (n-1) (s-1) A) (.agg z8) (.sc (.int .i64 (i:Nat)))) ⟨A,1,hal,rfl,Nat.le_refl _,rfl,x.trans e2,c3.ext e2,rfl⟩ (QcA h0 q3 n s _ _ _ hn hs) ?_
      rintro ex E' h3 ⟨rfl,x3,c33,a,_,_,ha,hX,rfl⟩
      by_cases hf:a=n-1
      · have:sqM n (n-1) (s-1) A=true:=by rw [← hX];simp [hf]
        rw [this] at hmr
        repeat' (first | refine Qh ?_ | refine Qb ?_ | refine QC ?_ | refine QE ?_ | refine Qn ?_ | refine Qf ?_ | ((refine Qg ?_);refine Qj rfl ?_) | ((refine Qe ?_);first | refine QU rfl rfl rfl rfl rfl ?_ | refine QM rfl rfl rfl rfl rfl rfl ?_) | ((refine Qc ?_);first | refine XG rfl rfl (by omega) ?_ | refine Qp rfl ?_ | refine QK rfl rfl (by omega) ?_ | refine XJ rfl rfl (by omega) ?_))
        exact Qu (j:=12-(i+1)) (by omega) ⟨i+1,by omega,rfl,next hmr,x3,c33,rfl⟩
      · have:sqM n (n-1) (s-1) A=false:=by rw [← hX];simp [hf]
        rw [this] at hmr
        repeat' (first | refine Qh ?_ | refine Qb ?_ | refine QF ?_ | refine QE ?_ | refine Xg ?_ | refine Qs ?_ | refine Qf ?_ | ((refine Qg ?_);refine Qk rfl ?_) | ((refine Qe ?_);first | refine Qr rfl ?_ | refine QM rfl rfl rfl rfl rfl rfl ?_) | ((refine Qc ?_);first | refine XG rfl rfl (by omega) ?_ | refine Qp rfl ?_ | refine XX rfl rfl (by omega) ?_))
        refine XN ⟨x3,.inr ⟨rfl,?_,rfl⟩⟩
        exact List.all_eq_false.2 ⟨b,List.mem_of_getElem? hb,by rw [hmr];simp⟩
  · have:i=12:=by omega
    subst this
    repeat' (first | refine Qh ?_ | refine Qb ?_ | refine QP ?_ | refine QL ?_ | refine Qf ?_ | ((refine Qg ?_);refine Qj rfl ?_) | ((refine Qe ?_);refine QM rfl rfl rfl rfl rfl rfl ?_) | ((refine Qc ?_);refine QH rfl rfl (by omega) ?_))
    exact QG ⟨x,.inl ⟨rfl,hall⟩⟩
theorem Qjl (x:Nat):Lib.ctz 64 x≤64:=by
  have key:∀ f x,Lib.ctzFrom f x≤f:=by
    intro f
    induction f with
    | zero=>intro x;exact Nat.le_refl _
    | succ f ih => intro x; unfold Lib.ctzFrom; split
                   · omega
                   · have:=ih (x / 2);omega
  unfold Lib.ctz
  split
  · omega
  · exact key 64 x
theorem QiP (n:Nat):prM n=basesL.all fun b=>mrB n (Lib.ctz 64 (n-1)) ((n-1) / 2 ^ Lib.ctz 64 (n-1)) b:=by
  unfold prM;rw [Yl,Yl]
theorem Qcb (h0:Qa) (n:Nat) (hn:2 < n∧n < 18446744073709551616):∃ r h',Cal FT HKt 118 [u n] h0 r h'∧Ext h0 h'∧r=.sc (.bool (prM n)):=by
  refine Cal.of (F:=a118) rfl rfl rfl ?_
  have k138:=fun H=>QfX (h:=H) (n-1) (by omega)
  have hs:=Qjl (n-1)
  rw [QiP]
  generalize hs':Lib.ctz 64 (n-1)=s at *
  have e1':((n:Int)-1)=((n-1:Nat):Int):=by omega
  repeat' (first | refine Qh ?_ | refine Qb ?_ | refine Qt ?_ | refine Qf ?_ | ((refine Qe ?_);first | refine Qr rfl ?_ | refine Qv rfl rfl ?_ | refine Qy rfl rfl rfl ?_ | refine QU rfl rfl rfl rfl rfl ?_) | ((refine Qc ?_);first | (refine YU rfl ?_;intro h1 e1 c1) | refine Y0 rfl rfl ?_ | (refine XG rfl rfl (by omega) ?_;rw [e1']) | (refine Qm rfl (k138 _) ?_;rintro v _ ⟨rfl,rfl⟩) | refine Qp rfl ?_))
  refine Q2 (I118 h0 h0.length n s) 12 (R118 h0 n s) ⟨0,Nat.zero_le _,rfl,by simp,e1,c1,rfl⟩ (QdO h0 h0.length n s hn hs) ?_
  rintro ex E' h2 ⟨x2,⟨rfl,hall⟩ | ⟨rfl,hall,rfl⟩⟩
  · rw [hall]
    repeat' (first | refine Qh ?_ | refine Qb ?_ | refine QE ?_ | refine Qs ?_ | refine Qf ?_ | ((refine Qe ?_);refine Qr rfl ?_) | ((refine Qc ?_);refine Qp rfl ?_))
    exact ⟨.inr rfl,x2,rfl⟩
  · rw [hall]
    repeat' (first | refine QF ?_ | refine Xg ?_)
    exact ⟨.inr rfl,x2,rfl⟩
end Go.Proofs.YtofknpknogfijaaGreatDoor
