/- The residues of a determinant: the contract. -/
import Derived.Test.YtofknpknogfijaaGreatDoorRS3
import Derived.Test.YtofknpknogfijaaGreatDoorAb50
import Derived.Test.YtofknpknogfijaaGreatDoorW2
namespace Go.Proofs.YtofknpknogfijaaGreatDoor
open Go.Ab
set_option linter.all false
set_option maxHeartbeats 16000000
set_option maxRecDepth 20000
attribute [local irreducible] Ql wA Xr Xp QA Qp QW QY
variable [HB]
def Qh9 (a1:AV) (q3 deg g:Nat) (H:Qa) (m:Nat) (E:Env) (h:Qa):Prop:=∃ k,k≤17∧m=17-k∧h=H∧E.keep [1,2,3,7,8]=[(1,some a1),(2,some (.sc (.int .i64 (deg:Nat)))),(3,some (.sc (.ptr q3 0))),(7,some (.sc (.int .i64 ((2 ^ k:Nat):Int)))),(8,some (u g))]
def QkW (a1:AV) (q3 deg g:Nat) (H:Qa) (ex:Ex) (E:Env) (h:Qa):Prop:=ex=.ex 0∧h=H∧∃ k,k≤17∧deg < 2 ^ k∧∃ a,E=[(1,some a1),(2,some (.sc (.int .i64 (deg:Nat)))),(3,some (.sc (.ptr q3 0))),(7,some (.sc (.int .i64 ((2 ^ k:Nat):Int)))),(8,some (u g)),(29,a)]
theorem Qeo (a1:AV) (q3 deg g:Nat) (hd:deg≤65536) (H:Qa) (m:Nat) (E:Env) (h:Qa) (hI:Qh9 a1 q3 deg g H m E h) :
  wA FT HKt QhF (E.keep [1,2,3,7,8]) h (Qp (Qh9 a1 q3 deg g H) m (QkW a1 q3 deg g H)):=by
 obtain ⟨k,hk,rfl,rfl,hE⟩:=hI
 rw [hE]
 have h17:2 ^ k≤2 ^ 17:=GM (by decide) hk
 by_cases hlt:2 ^ k≤deg
 ·have hk16:k < 17:=by
   rcases Gw k 17 with h | h
   ·exact h
   ·have:k=17:=by omega
    subst this
    have:(2:Nat) ^ 17=131072:=by decide
    omega
  have e2:((2 ^ k:Nat):Int)*2=((2 ^ (k+1):Nat):Int):=by rw [Nat.pow_succ];omega
  generalize 2 ^ k=N at *
  have hN:N≤131072:=h17
  repeat' (first | refine Qg ?_ | refine Qb ?_ | refine Qv ?_ | refine QJ ?_ | refine Qn ?_ | refine Qf ?_ | ((refine Qh ?_);refine Qj rfl ?_) | ((refine Qe ?_);first | refine QU rfl rfl rfl rfl rfl ?_ | refine QT rfl rfl rfl rfl rfl rfl ?_) | ((refine Qc ?_);first | (refine zx rfl rfl (by omega) ?_;rw [e2]) | refine Qo rfl ?_ | refine qB rfl rfl (by omega) ?_))
  exact QB (j:=17-(k+1)) (by omega) ⟨k+1,by omega,rfl,rfl,rfl⟩
 ·repeat' (first | refine Qg ?_ | refine Qb ?_ | refine Q0 ?_ | refine QX ?_ | refine Qf ?_ | ((refine Qh ?_);refine Qk rfl ?_) | ((refine Qe ?_);refine QT rfl rfl rfl rfl rfl rfl ?_) | ((refine Qc ?_);first | refine Qo rfl ?_ | refine JS rfl rfl (by omega) ?_))
  exact QN ⟨rfl,rfl,k,hk,by omega,_,rfl⟩
def Rt1 (p s w:Nat):Prop:=Rt p s w∧(s=0→Cg p (w:Int) 1)
theorem Rt1.sq {p s w:Nat} (h:Rt1 p (s+1) w):Rt1 p s (w*w%p):=by
 refine ⟨h.1.sq,fun e=>?_⟩
 subst e
 have h1:=h.1.resolve_left (by omega)
 have h2:Cg p (w:Int) (-1):=(Cg.of_eq (by simp [Int.pow_succ])).trans h1
 refine Cg.modN.trans ?_
 rw [GZ]
 exact h2.mul h2
def Qic (p g q3 k deg:Nat) (a1:AV) (hb:Qa) (m:Nat) (E:Env) (h:Qa):Prop:=∃ j w,k≤j∧j≤17∧m=j-k∧w < p∧Rt1 p j w∧Ext hb h∧E.keep [1,2,3,7,8,9]=[(1,some a1),(2,some (.sc (.int .i64 (deg:Nat)))),(3,some (.sc (.ptr q3 0))),(7,some (.sc (.int .i64 ((2 ^ k:Nat):Int)))),(8,some (u w)),(9,some (.sc (.int .i64 ((2 ^ j:Nat):Int))))]
def QkZ (p g q3 k deg:Nat) (a1:AV) (hb:Qa) (ex:Ex) (E:Env) (h:Qa):Prop:=ex=.ex 2∧Ext hb h∧∃ w,w < p∧Rt1 p k w∧∃ a b,E=[(1,some a1),(2,some (.sc (.int .i64 (deg:Nat)))),(3,some (.sc (.ptr q3 0))),(7,some (.sc (.int .i64 ((2 ^ k:Nat):Int)))),(8,some (u w)),(9,a),(34,b)]
theorem Qer (p g q3 k deg:Nat) (a1:AV) (hb:Qa) (hp:2≤p∧p < 9223372036854775808) (c3:Cel hb q3 (.int .u64 (p:Nat)) (.int .u64 (g:Nat))) (m:Nat) (E:Env) (h:Qa) (hI:Qic p g q3 k deg a1 hb m E h) :
  wA FT HKt QhE (E.keep [1,2,3,7,8,9]) h (Qp (Qic p g q3 k deg a1 hb) m (QkZ p g q3 k deg a1 hb)):=by
 obtain ⟨j,w,hkj,hj,rfl,hw,hr,x,hE⟩:=hI
 rw [hE]
 have c3h:=c3.ext x
 have h17:2 ^ j≤2 ^ 17:=GM (by decide) hj
 have h17':(2:Nat) ^ 17=131072:=by decide
 by_cases hlt:k < j
 ·obtain ⟨i,rfl⟩:∃ i,j=i+1:=⟨j-1,by omega⟩
  have hmono:2 ^ k≤2 ^ i:=GM (by decide) (by omega)
  have hpos:1≤2 ^ i:=Nat.one_le_two_pow
  have e1:2 ^ (i+1)=2*2 ^ i:=by rw [Nat.pow_succ];omega
  have e2:((2*2 ^ i:Nat):Int) / 2=((2 ^ i:Nat):Int):=by omega
  rw [e1] at h17 ⊢
  have k98:=fun H=>YY H p g w w ⟨by omega,by omega⟩ (by omega) (by omega)
  repeat' (first | refine Qg ?_ | refine Qb ?_ | refine Qv ?_ | refine QJ ?_ | refine Qn ?_ | refine Qf ?_ | ((refine Qh ?_);refine Qj rfl ?_) | ((refine Qe ?_);first | refine QT rfl rfl rfl rfl rfl rfl ?_ | refine Xn rfl rfl rfl rfl rfl rfl rfl ?_) | ((refine Qc ?_);first | refine QI rfl c3h ?_ | (refine Qi rfl (k98 _) ?_;rintro v1 h1 ⟨x1,rfl⟩) | (refine VC rfl rfl (by omega) ?_;rw [e2]) | refine Qo rfl ?_ | refine XV rfl rfl (by omega) ?_))
  exact QB (j:=i-k) (by omega) ⟨i,w*w%p,by omega,by omega,rfl,GU _ (by omega),hr.sq,x.trans x1,rfl⟩
 ·have:j=k:=by omega
  subst this
  repeat' (first | refine Qg ?_ | refine Qb ?_ | refine Q0 ?_ | refine QX ?_ | refine Qf ?_ | ((refine Qh ?_);refine Qk rfl ?_) | ((refine Qe ?_);refine Xn rfl rfl rfl rfl rfl rfl rfl ?_) | ((refine Qc ?_);first | refine Qo rfl ?_ | refine XT rfl rfl (by omega) ?_))
  exact QN ⟨rfl,x,w,hw,hr,_,_,rfl⟩
def Qib (p g q3 N deg w pid:Nat) (a1:AV) (hb:Qa) (m:Nat) (E:Env) (h:Qa):Prop:=∃ i,i+1≤N∧m=N-(i+1)∧Ext hb h∧Bu h pid (fill (pwM p w) N (i+1))∧E.keep [1,2,3,7,8,10,11]=[(1,some a1),(2,some (.sc (.int .i64 (deg:Nat)))),(3,some (.sc (.ptr q3 0))),(7,some (.sc (.int .i64 (N:Nat)))),(8,some (u w)),(10,some (.sc (.slc pid 0 N (some N)))),(11,some (.sc (.int .i64 ((i+1:Nat):Int))))]
def QkY (p g q3 N deg w pid:Nat) (a1:AV) (hb:Qa) (ex:Ex) (E:Env) (h:Qa):Prop:=ex=.ex 4∧Ext hb h∧Bu h pid ((List.range N).map (pwM p w))∧∃ a b,E=[(1,some a1),(2,some (.sc (.int .i64 (deg:Nat)))),(3,some (.sc (.ptr q3 0))),(7,some (.sc (.int .i64 (N:Nat)))),(8,some (u w)),(10,some (.sc (.slc pid 0 N (some N)))),(11,a),(47,b)]
theorem Qeq (p g q3 N deg w pid:Nat) (a1:AV) (hb:Qa) (hp:2≤p∧p < 9223372036854775808) (hw:w < p) (hN:N≤131072) (c3:Cel hb q3 (.int .u64 (p:Nat)) (.int .u64 (g:Nat))) (hl:hb.length≤pid) (m:Nat) (E:Env) (h:Qa) (hI:Qib p g q3 N deg w pid a1 hb m E h) :
  wA FT HKt QhD (E.keep [1,2,3,7,8,10,11]) h (Qp (Qib p g q3 N deg w pid a1 hb) m (QkY p g q3 N deg w pid a1 hb)):=by
 obtain ⟨i,hi,rfl,x,b,hE⟩:=hI
 rw [hE]
 have c3h:=c3.ext x
 by_cases hlt:i+1 < N
 ·have r1:=b.rd (i:=i) (by rw [YG];omega)
  have eg:(fill (pwM p w) N (i+1)).getD i 0=pwM p w i:=by
   unfold fill
   rw [Ge,Gi,Gq (by omega)]
   simp
  rw [eg] at r1
  have e1:(((i+1:Nat):Int)-1)=(i:Nat):=by omega
  have hpw:=Qch (p:=p) (w:=w) (by omega) i
  have k98:=fun H=>YY H p g (pwM p w i) w ⟨by omega,by omega⟩ (by omega) (by omega)
  have ep:pwM p w i*w%p=pwM p w (i+1):=rfl
  rw [ep] at k98
  have fs:=Ze (f:=pwM p w) hlt
  have wv:=fun h' (y:Ext h h')=>(b.ext y).wr (i:=i+1) (y:=pwM p w (i+1)) (by rw [YG];exact hlt)
  rw [fs] at wv
  clear ep
  generalize pwM p w (i+1)=W1 at *
  generalize pwM p w i=W0 at *
  repeat' (first | refine Qg ?_ | refine Qb ?_ | refine Qv ?_ | refine QJ ?_ | refine Qn ?_ | refine Qf ?_ | refine Q2 ?_ | refine Xk ?_ | refine Xl ?_ | ((refine Qh ?_);refine Qj rfl ?_) | ((refine Qe ?_);first | refine Q1 ?_ | refine Xw ?_ | refine Xn rfl rfl rfl rfl rfl rfl rfl ?_ | refine Xa rfl rfl rfl rfl rfl rfl rfl rfl ?_) | ((refine Qc ?_);first | refine QI rfl c3h ?_ | (refine Z8 rfl rfl (by omega) ?_;rw [e1]) | refine Qw (esz:=1) rfl rfl (by omega) ?_ | refine Q4 rfl r1 ?_ | (refine Qi rfl (k98 _) ?_;rintro v1 h1 ⟨x1,rfl⟩) | refine ZX rfl rfl (wv _ x1) ?_ | refine Qo rfl ?_ | refine QK rfl rfl (by omega) ?_ | refine Qy rfl rfl (by omega) ?_))
  exact QB (j:=N-(i+2)) (by omega) ⟨i+1,by omega,rfl,Ext.setF (x.trans x1) hl _,(b.ext x1).set,rfl⟩
 ·have:N=i+1:=by omega
  subst this
  rw [Y4] at b
  repeat' (first | refine Qg ?_ | refine Qb ?_ | refine Q0 ?_ | refine QX ?_ | refine Qf ?_ | ((refine Qh ?_);refine Qk rfl ?_) | ((refine Qe ?_);refine Xa rfl rfl rfl rfl rfl rfl rfl rfl ?_) | ((refine Qc ?_);first | refine Qo rfl ?_ | refine QM rfl rfl (by omega) ?_))
  exact QN ⟨rfl,x,b,_,_,rfl⟩
def zH (f:Nat→Nat) (cs:List Nat) (i:Nat):List Nat:=cs.mapIdx fun j x=>if j < i then f x else x
theorem Qbp {f:Nat→Nat} {cs:List Nat} {i:Nat}:(zH f cs i).length=cs.length:=by simp [zH]
theorem QeN {f:Nat→Nat} {cs:List Nat}:zH f cs 0=cs:=by
 unfold zH
 apply Gr
 intro j
 rw [GR]
 cases cs[j]? <;> simp
theorem QeO {f:Nat→Nat} {cs:List Nat}:zH f cs cs.length=cs.map f:=by
 unfold zH
 apply Gr
 intro j
 rw [GR,Gi]
 cases h:cs[j]? with
 | none=>rfl
 | some x =>
  have:=(Gb.1 h).1
  simp [this]
theorem Qgc {f:Nat→Nat} {cs:List Nat} {i:Nat} (h:i < cs.length):(zH f cs i).getD i 0=cs.getD i 0:=by
 unfold zH
 simp only [Ge,GR]
 rw [Ga h]
 simp
theorem Qgb {f:Nat→Nat} {cs:List Nat} {i:Nat} (h:i < cs.length):(zH f cs i).set i (f (cs.getD i 0))=zH f cs (i+1):=by
 unfold zH
 apply Gr
 intro j
 rw [GH,GR,GR,List.length_mapIdx]
 by_cases e:i=j
 ·subst e
  rw [if_pos rfl,if_pos h,Ga h,Ge,Ga h];simp
 ·rw [if_neg e]
  cases cs[j]? with
  | none=>rfl
  | some x =>
   simp only [Gl]
   by_cases h1:j < i
   ·rw [if_pos h1,if_pos (by omega)]
   ·rw [if_neg h1,if_neg (by omega)]
def Qie (p g q3 N deg sc cid:Nat) (cs:List Nat) (hb:Qa) (m:Nat) (E:Env) (h:Qa):Prop:=∃ i,i≤N∧m=N-i∧Ext hb h∧Bu h cid (zH (fun x=>x*sc%p) cs i)∧E.keep [2,3,22,23,149,150]=[(2,some (.sc (.int .i64 (deg:Nat)))),(3,some (.sc (.ptr q3 0))),(22,some (.sc (.slc cid 0 N (some N)))),(23,some (u sc)),(149,some (.sc (.int .i64 (N:Nat)))),(150,some (.sc (.int .i64 (i:Nat))))]
def Qk1 (p g q3 N deg sc cid:Nat) (cs:List Nat) (hb:Qa) (ex:Ex) (E:Env) (h:Qa):Prop:=ex=.ex 14∧Ext hb h∧Bu h cid (cs.map fun x=>x*sc%p)∧∃ a b c d e,E=[(2,some (.sc (.int .i64 (deg:Nat)))),(3,a),(22,some (.sc (.slc cid 0 N (some N)))),(23,b),(149,c),(150,d),(151,e)]
theorem Qet (p g q3 N deg sc cid:Nat) (cs:List Nat) (hb:Qa) (hp:2≤p∧p < 9223372036854775808) (hs:sc < p) (hN:N≤131072) (hc:cs.length=N) (hcp:∀ x∈cs,x < p) (c3:Cel hb q3 (.int .u64 (p:Nat)) (.int .u64 (g:Nat))) (hl:hb.length≤cid) (m:Nat) (E:Env) (h:Qa) (hI:Qie p g q3 N deg sc cid cs hb m E h) :
  wA FT HKt Qhy (E.keep [2,3,22,23,149,150]) h (Qp (Qie p g q3 N deg sc cid cs hb) m (Qk1 p g q3 N deg sc cid cs hb)):=by
 obtain ⟨i,hi,rfl,x,b,hE⟩:=hI
 rw [hE]
 have c3h:=c3.ext x
 by_cases hlt:i < N
 ·have r1:=b.rd (i:=i) (by rw [Qbp];omega)
  rw [Qgc (by omega)] at r1
  have hx:cs.getD i 0 < p:=by rw [Ge,Ga (by omega)];exact hcp _ (GD _)
  have k98:=fun H=>YY H p g (cs.getD i 0) sc ⟨by omega,by omega⟩ (by omega) (by omega)
  have ms:=Qgb (f:=fun x=>x*sc%p) (cs:=cs) (i:=i) (by omega)
  have wv:=fun h' (y:Ext h h')=>(b.ext y).wr (i:=i) (y:=cs.getD i 0*sc%p) (by rw [Qbp];omega)
  rw [ms] at wv
  generalize cs.getD i 0=v at *
  repeat' (first | refine Qg ?_ | refine Qb ?_ | refine Qv ?_ | refine QJ ?_ | refine Qn ?_ | refine Qf ?_ | refine Q2 ?_ | refine Xk ?_ | refine Xl ?_ | ((refine Qh ?_);refine Qj rfl ?_) | ((refine Qe ?_);first | refine Q1 ?_ | refine Xw ?_ | refine QT rfl rfl rfl rfl rfl rfl ?_ | refine Xn rfl rfl rfl rfl rfl rfl rfl ?_) | ((refine Qc ?_);first | refine QI rfl c3h ?_ | refine Qw (esz:=1) rfl rfl (by omega) ?_ | refine Q4 rfl r1 ?_ | (refine Qi rfl (k98 _) ?_;rintro v1 h1 ⟨x1,rfl⟩) | refine ZX rfl rfl (wv _ x1) ?_ | refine Qo rfl ?_ | refine QK rfl rfl (by omega) ?_ | refine Qy rfl rfl (by omega) ?_))
  exact QB (j:=N-(i+1)) (by omega) ⟨i+1,by omega,rfl,Ext.setF (x.trans x1) hl _,(b.ext x1).set,rfl⟩
 ·have:i=N:=by omega
  subst this
  rw [← hc,QeO] at b
  repeat' (first | refine Qg ?_ | refine Qb ?_ | refine Q0 ?_ | refine QX ?_ | refine Qf ?_ | ((refine Qh ?_);refine Qk rfl ?_) | ((refine Qe ?_);refine Xn rfl rfl rfl rfl rfl rfl rfl ?_) | ((refine Qc ?_);refine QM rfl rfl (by omega) ?_))
  exact QN ⟨rfl,x,b,_,_,_,_,_,rfl⟩
theorem QaB {p:Nat} {inv:Nat→Nat} (hp:0 < p):∀ (m k:Nat) (rs:List (List Nat)) (d:Nat),d < p→qH p inv m k rs d < p
 | 0,k,rs,d,h=>h
 | m+1,k,rs,d,h=>by
  unfold qH
  split
  ·exact hp
  ·exact QaB hp _ _ _ _ (GU _ hp)
theorem V8 {p w N:Nat} (hN:0 < N):(List.replicate N 0).set 0 1=fill (pwM p w) N 1:=by
 rw [← Y3 (f:=pwM p w)]
 exact Ze (f:=pwM p w) (i:=0) hN
theorem QjO (p g n deg:Nat) (h0:Qa) (esl:SV) (es:List (List (List Tm))) (hp:2≤p∧p < 9223372036854775808) (hg:g < p) (hr:Rt p 17 g) (hd:deg≤65536) (hn:n < 1000000) (ee:Ents h0 esl es) (he:es.length=n) (tok:∀ r∈es,r.length=n∧∀ l∈r,l.length≤1000000∧∀ m∈l,U8 p m) :
  ∃ r h',Cal FT HKt 108 [fld p g,.sc esl,.sc (.int .i64 (deg:Nat))] h0 r h'∧Ext h0 h'∧∃ k w id,k≤17∧deg < 2 ^ k∧w < p∧Rt1 p k w∧r=.sc (.slc id 0 (deg+1) (some (2 ^ k))) ∧
   Bu h' id ((trM p k ((List.range (2 ^ k)).map (JK p (2 ^ k) n ((List.range (2 ^ k)).map (pwM p w)) es)) (XU p w)).map fun x=>x*XU p (2 ^ k)%p):=by
 refine Cal.of (F:=a108) rfl rfl rfl ?_
 repeat' (first | refine Qg ?_ | refine Qb ?_ | refine Qv ?_ | refine Qf ?_ | refine Q2 ?_ | refine Xk ?_ | refine Xl ?_ | ((refine Qe ?_);first | refine Q1 ?_ | refine Qu rfl rfl rfl ?_ | refine QU rfl rfl rfl rfl rfl ?_) | ((refine Qc ?_);first | (refine Qx rfl ?_;intro h1 e1 c1) | refine Xi rfl ?_ | refine Qz rfl c1 ?_ | refine Qo rfl ?_))
 refine Q9 (Qh9 (.sc esl) h0.length deg g h1) 17 (QkW (.sc esl) h0.length deg g h1) ⟨0,by omega,rfl,rfl,rfl⟩ (Qeo (.sc esl) h0.length deg g hd h1) ?_
 rintro ex E' h2 ⟨rfl,eh,k,hk,hdk,a,rfl⟩
 subst eh
 repeat' (first | refine Qg ?_ | refine Qb ?_ | refine Qv ?_ | refine QP ?_ | refine Qf ?_ | ((refine Qe ?_);refine QT rfl rfl rfl rfl rfl rfl ?_) | ((refine Qc ?_);refine Qo rfl ?_))
 refine Q9 (Qic p g h0.length k deg (.sc esl) h2) (17-k) (QkZ p g h0.length k deg (.sc esl) h2) ⟨17,g,hk,Gf _,rfl,hg,⟨hr,fun e=>absurd e (by decide)⟩,Ext.refl _,rfl⟩ (Qer p g h0.length k deg (.sc esl) h2 hp c1) ?_
 rintro ex E' h3 ⟨rfl,x3,w,hw,hrw,_,_,rfl⟩
 have k131:=fun H c iw cs=>QdQ p g ⟨by omega,hp.2⟩ k H c iw cs (by omega)
 have tl:=fun cs iw=>ZI p k cs iw
 have tp:=fun cs iw=>zN (p:=p) (by omega) k cs iw
 have h17:2 ^ k≤2 ^ 17:=GM (by decide) hk
 have h17':(2:Nat) ^ 17=131072:=by decide
 have hpos:0 < 2 ^ k:=Nat.two_pow_pos k
 generalize hNe:2 ^ k=N at *
 have hiw:XU p w < p:=Zy 64 _ _ _ (by omega)
 have hiN:XU p N < p:=Zy 64 _ _ _ (by omega)
 repeat' (first | refine Qg ?_ | refine Qb ?_ | refine Qv ?_ | refine QP ?_ | refine Qf ?_ | ((refine Qe ?_);first | refine QT rfl rfl rfl rfl rfl rfl ?_ | refine Xn rfl rfl rfl rfl rfl rfl rfl ?_) | ((refine Qc ?_);first | (refine VD rfl rfl (by omega) ?_;intro h4 e4 b4) | refine Qw (esz:=1) rfl rfl (by omega) ?_ | refine ZX rfl rfl (b4.wr (i:=0) (y:=1) (by simpa using hpos)) ?_ | refine Qo rfl ?_))
 have b4':=b4.set (ys:=(List.replicate N 0).set 0 1)
 rw [V8 (p:=p) (w:=w) hpos] at b4' ⊢
 have x4:=Ext.setF (x3.trans e4) x3.len (.cells ((fill (pwM p w) N 1).map fun (x:Nat)=>SV.int .u64 (x:Int)) true 1)
 generalize h4.set h3.length (.cells ((fill (pwM p w) N 1).map fun (x:Nat)=>SV.int .u64 (x:Int)) true 1)=h5 at *
 refine Q9 (Qib p g h0.length N deg w h3.length (.sc esl) h2) (N-1) (QkY p g h0.length N deg w h3.length (.sc esl) h2) ⟨0,by omega,rfl,x4,b4',rfl⟩ (Qeq p g h0.length N deg w h3.length (.sc esl) h2 hp hw (by omega) c1 x3.len) ?_
 rintro ex E' h6 ⟨rfl,x6,b6,_,_,rfl⟩
 have hpl:((List.range N).map (pwM p w)).length=N:=by simp
 have hpp:∀ x∈(List.range N).map (pwM p w),x < p:=fun x hx=>by
  obtain ⟨i,-,rfl⟩:=Gu.1 hx
  exact Qch (by omega) i
 generalize hpe:(List.range N).map (pwM p w)=pws at *
 repeat' (first | refine Qg ?_ | refine Qb ?_ | refine Qv ?_ | refine QP ?_ | refine Qf ?_ | ((refine Qe ?_);first | refine Xn rfl rfl rfl rfl rfl rfl rfl ?_ | refine Q5 rfl rfl rfl rfl rfl rfl rfl rfl rfl ?_) | ((refine Qc ?_);first | (refine VD rfl rfl (by omega) ?_;intro h7 e7 b7) | refine Qs rfl rfl ?_ | refine Qo rfl ?_))
 refine Q9 (Qif p g h0.length N h3.length h6.length n pws es esl (.sc (.int .i64 (deg:Nat))) (u w) h6) N (Qk2 p g h0.length N h3.length h6.length n pws es (.sc (.int .i64 (deg:Nat))) (u w) h6) ⟨0,Gs _,rfl,e7,by rw [Y3];exact b7,rfl⟩
  (Qeu p g h0.length N h3.length h6.length n pws es esl (.sc (.int .i64 (deg:Nat))) (u w) h6 hp ⟨hpos,by omega⟩ hn (c1.ext x6) b6 hpl hpp ((ee.ext e1).ext x6) he tok (Gf _)) ?_
 rintro ex E' h8 ⟨rfl,x8,b8,_,_,_,_,_,rfl⟩
 have hvl:((List.range N).map (JK p N n pws es)).length=N:=by simp
 have hvp:∀ x∈(List.range N).map (JK p N n pws es),x < p:=fun x hx=>by
  obtain ⟨i,-,rfl⟩:=Gu.1 hx
  exact QaB (by omega) _ _ _ _ (by omega)
 generalize hve:(List.range N).map (JK p N n pws es)=vs at *
 have tl:=tl vs (XU p w) hvl
 have tp:=tp vs (XU p w) hvl hvp
 have k131:=fun H (b:Bu H h6.length vs)=>k131 H h6.length (XU p w) vs b hvl hvp hiw
 generalize hce:trM p k vs (XU p w)=cs at *
 have k121a:=fun H=>Uc H p g w ⟨hp.1,by omega⟩ (by omega)
 have k121b:=fun H=>Uc H p g N ⟨hp.1,by omega⟩ (by omega)
 generalize hie:XU p w=iw at *
 generalize hse:XU p N=sc at *
 have c8:=(c1.ext x6).ext x8
 repeat' (first | refine Qg ?_ | refine Qb ?_ | refine Qv ?_ | refine QP ?_ | refine Qf ?_ | refine Q2 ?_ | refine Xk ?_ | refine Xl ?_ | ((refine Qe ?_);first | refine Q1 ?_ | refine Xw ?_ | refine XZ (by assumption) ?_ | refine QG rfl rfl rfl rfl ?_ | refine QT rfl rfl rfl rfl rfl rfl ?_) | ((refine Qc ?_);first | refine QI rfl c8 ?_ | (refine Qi rfl (k121a _) ?_;rintro v9 h9 ⟨e9,rfl⟩;replace c8:=c8.ext e9;have b9:=b8.ext e9) | (refine Qi rfl (k131 _ b9) ?_;rintro v10 h10 ⟨e10,cid,lc,rfl,b10⟩;have c9:=c8;replace c8:=c8.ext e10) | refine UI rfl (by omega) ?_ | (refine Qi rfl (k121b _) ?_;rintro v11 h11 ⟨e11,rfl⟩) | refine Qs rfl rfl ?_ | refine Qo rfl ?_))
 refine Q9 (Qie p g h0.length N deg sc cid cs h9) N (Qk1 p g h0.length N deg sc cid cs h9) ⟨0,Gs _,rfl,e10.trans e11,by rw [QeN];exact b10.ext e11,rfl⟩ (Qet p g h0.length N deg sc cid cs h9 hp hiN (by omega) tl tp c9 lc) ?_
 rintro ex E' h12 ⟨rfl,x12,b12,_,_,_,_,_,rfl⟩
 have hsl:Jl 0 ((deg:Int)+1).toNat (.slc cid 0 N (some N))=some (.slc cid 0 (deg+1) (some N)):=by
  have e:((deg:Int)+1).toNat=deg+1:=by omega
  simp only [Jl,e]
  rw [if_pos (by omega)]
  rfl
 repeat' (first | refine Qg ?_ | refine Qb ?_ | refine QP ?_ | refine Qt ?_ | refine Qf ?_ | ((refine Qe ?_);refine Qq rfl ?_) | ((refine Qc ?_);first | refine k_to rfl rfl rfl (by omega) hsl ?_ | refine Qo rfl ?_ | refine QK rfl rfl (by omega) ?_))
 exact ⟨.inr rfl,((((e1.trans x6).trans x8).trans e9).trans x12),k,w,cid,hk,by rw [hNe];exact hdk,hw,hrw,by rw [hNe];rfl,by rw [hNe,hpe,hve,hie,hce,hse];exact b12⟩
end Go.Proofs.YtofknpknogfijaaGreatDoor
namespace Go.Proofs.YtofknpknogfijaaGreatDoor
open Go.Ab
set_option linter.all false
variable [HB]
def evT (x:Int):List Tm→Int
 | []=>0
 | t::l=>t.2*x ^ t.1.toNat+evT x l
def evR (x:Int) (r:List (List Tm)):Row:=fun c=>evT x (r.getD c [])
theorem Qf0 {p w N:Nat} (h:Cg p ((w:Int) ^ N) 1) (m:Nat):Cg p ((w:Int) ^ (m%N)) ((w:Int) ^ m):=by
 have e:(w:Int) ^ m=(w:Int) ^ (m%N)*((w:Int) ^ N) ^ (m / N):=by rw [← Int.pow_mul,← Int.pow_add,Nat.mod_add_div]
 rw [e]
 have:=(h.pow (m / N)).trans (Cg.of_eq (YW _))
 exact (Cg.of_eq (Int.mul_one _).symm).trans (Cg.rfl.mul this.symm)
theorem Qi6 {p w N i:Nat} (h:i < N):((List.range N).map (pwM p w)).getD i 0=pwM p w i:=by
 rw [Ge,Gi,Gq h];rfl
theorem QjZ {p w N t x:Nat} {m:Tm} (hN:0 < N) (h:Cg p ((w:Int) ^ N) 1) (ok:U8 p m):Cg p (Qe9 p N t ((List.range N).map (pwM p w)) x m:Nat) ((x:Int)+m.2*((w:Int) ^ t) ^ m.1.toNat):=by
 unfold Qe9
 rw [Qi6 (GU _ hN)]
 refine adM_cg.trans (Cg.rfl.add (Cg.modN.trans ?_))
 rw [GZ]
 refine (Qck ok.2.2).mul ((V5 _).trans ((Qf0 h _).trans (Cg.of_eq ?_)))
 rw [← Int.pow_mul,Hw]
theorem QmW {p w N t:Nat} (hN:0 < N) (h:Cg p ((w:Int) ^ N) 1) {l:List Tm} (ok:∀ m∈l,U8 p m):Cg p (acc p N t ((List.range N).map (pwM p w)) l:Nat) (evT ((w:Int) ^ t) l):=by
 have key:∀ (l:List Tm) (x:Nat),(∀ m∈l,U8 p m)→Cg p (l.foldl (Qe9 p N t ((List.range N).map (pwM p w))) x:Nat) ((x:Int)+evT ((w:Int) ^ t) l):=by
  intro l
  induction l with
  | nil=>intro x _;exact Cg.of_eq (by simp [evT])
  | cons m l ih =>
   intro x hx
   rw [List.foldl_cons]
   refine (ih _ fun y hy=>hx y (.tail _ hy)).trans (((QjZ hN h (hx m (.head _))).add Cg.rfl).trans (Cg.of_eq (Int.add_assoc _ _ _)))
 exact (key l 0 ok).trans (Cg.of_eq (by simp))
theorem Qc4 {p w N t n:Nat} (hN:0 < N) (h:Cg p ((w:Int) ^ N) 1):∀ {es:List (List (List Tm))},(∀ r∈es,r.length=n∧∀ l∈r,∀ m∈l,U8 p m)→RsCg p (List.range' 0 n) ((es.map (qY p N t ((List.range N).map (pwM p w)))).map rw_) (es.map (evR ((w:Int) ^ t)))
 | [],_=>.nil
 | r::es,hs=>by
  refine .cons (fun c hc=>?_) (Qc4 hN h fun r hr=>hs r (.tail _ hr))
  rw [Hl] at hc
  obtain ⟨l1,l2⟩:=hs r (.head _)
  obtain ⟨l,hl⟩:∃ l,r[c]?=some l:=⟨_,Ga (by omega)⟩
  have e1:rw_ (qY p N t ((List.range N).map (pwM p w)) r) c=((acc p N t ((List.range N).map (pwM p w)) l:Nat):Int):=by
   unfold rw_ qY
   rw [Ge,Gi,hl];rfl
  have e2:evR ((w:Int) ^ t) r c=evT ((w:Int) ^ t) l:=by
   unfold evR
   rw [Ge,hl];rfl
  rw [e1,e2]
  exact QmW hN h (l2 l (Gh hl))
theorem Qb9 {N n:Nat} (f:Nat→Int) (h:n≤N) (hz:∀ j,n≤j→f j=0):sm N f=sm n f:=by
 obtain ⟨k,rfl⟩:∃ k,N=n+k:=⟨N-n,by omega⟩
 induction k with
 | zero=>rfl
 | succ k ih =>
  have:sm (n+(k+1)) f=sm (n+k) f+f (n+k):=rfl
  rw [this,ih (by omega),hz _ (by omega)];omega
theorem Rt1.pos {p k w:Nat} (hp:1 < p) (h:Rt1 p k w):0 < w:=by
 rcases Nat.eq_zero_or_pos w with e | e
 ·exfalso
  subst e
  rcases h.1 with h1 | h1
  ·have:=(h.2 h1).eq (by show ((0:Int)-1).natAbs < p;simp;omega)
   simp at this
  ·rw [show ((0:Nat):Int) ^ 2 ^ (k-1)=0 from Int.zero_pow (Nat.pos_iff_ne_zero.1 (Nat.two_pow_pos _))] at h1
   have:=h1.eq (by show ((0:Int) - -1).natAbs < p;simp;omega)
   omega
 ·exact e
theorem FOK.cg {p:Nat} {inv:Nat→Nat} (hF:FOK p inv) {a:Nat} (h0:0 < a) (h1:a < p):Cg p ((a:Int)*(inv a:Nat)) 1:=by
 have:Cg p ((a*inv a:Nat):Int) ((1:Nat):Int):=by rw [← hF a h0 h1];exact Cg.modN.symm
 rwa [GZ] at this
theorem resid {p k w n deg:Nat} {es:List (List (List Tm))} {d:Nat→Int} (hF:FOK p (XU p)) (hp:262144 < p) (hk:k≤17) (hw:w < p) (hr:Rt1 p k w) (hd:deg < 2 ^ k) (he:es.length=n) (tok:∀ r∈es,r.length=n∧∀ l∈r,∀ m∈l,U8 p m)
  (hD:∀ x:Int,D (es.map (evR x)) (List.range' 0 n)=sm (deg+1) fun j=>d j*x ^ j) (j:Nat) (hj:j≤deg) :
  (((trM p k ((List.range (2 ^ k)).map (JK p (2 ^ k) n ((List.range (2 ^ k)).map (pwM p w)) es)) (XU p w)).map fun x=>x*XU p (2 ^ k)%p).getD j 0) < p ∧
  Cg p (((trM p k ((List.range (2 ^ k)).map (JK p (2 ^ k) n ((List.range (2 ^ k)).map (pwM p w)) es)) (XU p w)).map fun x=>x*XU p (2 ^ k)%p).getD j 0:Nat) (d j):=by
 have hN:0 < 2 ^ k:=Nat.two_pow_pos k
 have h17:2 ^ k≤2 ^ 17:=GM (by decide) hk
 have h17':(2:Nat) ^ 17=131072:=by decide
 have htop:=hr.1.top hr.2
 have hwp:=hr.pos (by omega)
 have hval:∀ t,Cg p (JK p (2 ^ k) n ((List.range (2 ^ k)).map (pwM p w)) es t:Nat) (sm (2 ^ k) fun j=>(if j≤deg then d j else 0)*(w:Int) ^ (j*t)):=fun t=>by
  have hs:=VM hF (by omega) n n 0 (es.map (qY p (2 ^ k) t ((List.range (2 ^ k)).map (pwM p w)))) 1 rfl (by simpa using he) (fun r hr=>by
   obtain ⟨y,hy,rfl⟩:=Gu.1 hr
   refine ⟨by unfold qY;rw [Gt];exact (tok y hy).1,fun x hx=>?_⟩
   obtain ⟨l,hl,rfl⟩:=Gu.1 hx
   exact QcL (by omega)) (by omega)
  refine hs.2.trans ((Cg.of_eq (Hj _)).trans ((Qio (Qc4 hN htop tok)).trans (Cg.of_eq ?_)))
  rw [hD,Qb9 (n:=deg+1) (fun j=>(if j≤deg then d j else 0)*(w:Int) ^ (j*t)) (by omega) fun j hj=>by rw [if_neg (by omega),Hr]]
  refine XK fun j hj=>?_
  rw [if_pos (by omega),← Int.pow_mul,Hw]
 have hdft:=Qjz hF (by omega) hr.1 (hF.cg hwp hw) ((List.range (2 ^ k)).map (JK p (2 ^ k) n ((List.range (2 ^ k)).map (pwM p w)) es)) (by simp) (fun x hx=>by
  obtain ⟨i,-,rfl⟩:=Gu.1 hx
  exact QaB (by omega) _ _ _ _ (by omega)) (fun j=>if j≤deg then d j else 0) (fun t ht=>by
  rw [Ge,Gi,Gq ht]
  exact hval t) j (by omega)
 have hlen:=ZI p k ((List.range (2 ^ k)).map (JK p (2 ^ k) n ((List.range (2 ^ k)).map (pwM p w)) es)) (XU p w) (by simp)
 generalize trM p k ((List.range (2 ^ k)).map (JK p (2 ^ k) n ((List.range (2 ^ k)).map (pwM p w)) es)) (XU p w)=xs at *
 have ej:(xs.map fun x=>x*XU p (2 ^ k)%p).getD j 0=xs.getD j 0*XU p (2 ^ k)%p:=by
  rw [Ge,Ge,Gi,Ga (by omega)];rfl
 rw [ej]
 refine ⟨GU _ (by omega),Cg.modN.trans ?_⟩
 rw [GZ]
 rw [if_pos hj] at hdft
 refine (hdft.mul Cg.rfl).trans ((Cg.of_eq ?_).trans (((hF.cg hN (by omega)).mul Cg.rfl).trans (Cg.of_eq (Hj _))))
 rw [Int.mul_right_comm]
set_option maxHeartbeats 16000000
set_option maxRecDepth 20000
attribute [local irreducible] Ql wA Xr Xp QA Qp QW QY
def Yr:List Tm→Nat
 | []=>0
 | t::l=>t.2.natAbs+Yr l
def XP:List (List Tm)→Nat
 | []=>0
 | l::r=>Yr l+XP r
theorem Qd9 {l:List Tm} {j:Nat} {t:Tm} (h:l[j]?=some t):Yr (l.take (j+1))=Yr (l.take j)+t.2.natAbs:=by
 induction l generalizing j with
 | nil=>simp at h
 | cons y l ih =>
  cases j with
  | zero=>simp at h;subst h;simp [Yr]
  | succ j =>
   have:=ih (j:=j) (by simpa using h)
   simp only [Ha,Yr]
   omega
theorem Qd4 {r:List (List Tm)} {j:Nat} {l:List Tm} (h:r[j]?=some l):XP (r.take (j+1))=XP (r.take j)+Yr l:=by
 induction r generalizing j with
 | nil=>simp at h
 | cons y r ih =>
  cases j with
  | zero=>simp at h;subst h;simp [XP]
  | succ j =>
   have:=ih (j:=j) (by simpa using h)
   simp only [Ha,XP]
   omega
theorem QcR {l:List Tm}:∀ j,Yr (l.take j)≤Yr l:=by
 induction l with
 | nil=>intro j;simp [Yr]
 | cons y l ih =>
  intro j
  cases j with
  | zero=>simp [Yr]
  | succ j=>have:=ih j;simp only [Ha,Yr];omega
theorem Qir {r:List (List Tm)}:∀ j,XP (r.take j)≤XP r:=by
 induction r with
 | nil=>intro j;simp [XP]
 | cons y r ih =>
  intro j
  cases j with
  | zero=>simp [XP]
  | succ j=>have:=ih j;simp only [Ha,XP];omega
def Qig (l:List Tm) (ts:SV) (S0:Nat) (a3 a11 a12 a13 a17 a18 a19:AV) (hb:Qa) (m:Nat) (E:Env) (h:Qa):Prop:=∃ j,j≤l.length∧m=l.length-j∧Ext hb h ∧
 E.keep [3,6,11,12,13,17,18,19,23,24,25]=[(3,some a3),(6,some (.sc (.int .i64 ((S0+Yr (l.take j):Nat):Int)))),(11,some a11),(12,some a12),(13,some a13),(17,some a17),(18,some a18),(19,some a19),(23,some (.sc ts)),(24,some (.sc (.int .i64 (l.length:Nat)))),(25,some (.sc (.int .i64 (j:Nat))))]
def Qk3 (l:List Tm) (S0:Nat) (a3 a11 a12 a13 a17 a18 a19:AV) (hb:Qa) (ex:Ex) (E:Env) (h:Qa):Prop:=ex=.ex 4∧Ext hb h ∧
 ∃ a b c d,E=[(3,some a3),(6,some (.sc (.int .i64 ((S0+Yr l:Nat):Int)))),(11,some a11),(12,some a12),(13,some a13),(17,some a17),(18,some a18),(19,some a19),(23,a),(24,b),(25,c),(26,d)]
theorem Qev (l:List Tm) (ts:SV) (S0:Nat) (a3 a11 a12 a13 a17 a18 a19:AV) (hb:Qa) (hl:l.length≤1000000) (hS:S0+Yr l < 4611686018427387904) (dt:IsD hb ts (tms l)) (m:Nat) (E:Env) (h:Qa) (hI:Qig l ts S0 a3 a11 a12 a13 a17 a18 a19 hb m E h) :
  wA FT HKt QhG (E.keep [3,6,11,12,13,17,18,19,23,24,25]) h (Qp (Qig l ts S0 a3 a11 a12 a13 a17 a18 a19 hb) m (Qk3 l S0 a3 a11 a12 a13 a17 a18 a19 hb)):=by
 obtain ⟨j,hj,rfl,x,hE⟩:=hI
 rw [hE]
 by_cases hlt:j < l.length
 ·obtain ⟨y,hy⟩:∃ y,l[j]?=some y:=⟨_,Ga hlt⟩
  obtain ⟨id,off,cap,es,rA⟩:=dt.at (i:=j) (p:=tmP y) (by simp [hy])
  rw [Q6] at es
  subst es
  have rA0:=QH x rA
  have st:=Qd9 hy
  have le:=QcR (l:=l) (j+1)
  have le0:=QcR (l:=l) j
  obtain ⟨y1,y2⟩:=y
  simp only at st
  generalize hs1:Yr (l.take (j+1))=s1 at *
  generalize Yr (l.take j)=s0 at *
  have e1:min (((S0+s0:Nat):Int)+max (y1,y2).2 (-(y1,y2).2)) 4611686018427387904=((S0+s1:Nat):Int):=by simp only;omega
  have x0:=x
  repeat' (first | refine Qg ?_ | refine Qb ?_ | refine Qv ?_ | refine QJ ?_ | refine Qn ?_ | refine Qf ?_ | ((refine Qh ?_);refine Qj rfl ?_) | ((refine Qe ?_);first | refine X6 rfl rfl rfl rfl rfl rfl rfl rfl rfl rfl rfl ?_ | refine XC rfl rfl rfl rfl rfl rfl rfl rfl rfl rfl rfl rfl ?_) | ((refine Qc ?_);first | (refine qq rfl ?_;intro h1 x1 c10;replace x0:=x.trans x1) | refine Xi rfl ?_ | refine Qz rfl c10 ?_ | refine XX rfl rA0 ?_ | refine Qw (esz:=2) rfl rfl (by omega) ?_ | refine Qo rfl ?_ | refine QK rfl rfl (by omega) ?_ | refine JR rfl (by omega) ?_ | refine VE rfl rfl ?_ | refine Qbz rfl rfl ?_ | refine Qy rfl rfl (by omega) ?_))
  rw [e1]
  exact QB (j:=l.length-(j+1)) (by omega) ⟨j+1,by omega,rfl,x0,by rw [hs1];rfl⟩
 ·have:j=l.length:=by omega
  subst this
  repeat' (first | refine Qg ?_ | refine Qb ?_ | refine Q0 ?_ | refine QX ?_ | refine Qf ?_ | ((refine Qh ?_);refine Qk rfl ?_) | ((refine Qe ?_);refine XC rfl rfl rfl rfl rfl rfl rfl rfl rfl rfl rfl rfl ?_) | ((refine Qc ?_);refine QM rfl rfl (by omega) ?_))
  rw [Gx]
  exact QN ⟨rfl,x,_,_,_,_,rfl⟩
def Qih (r:List (List Tm)) (rs:SV) (a3 a11 a12 a13:AV) (hb:Qa) (m:Nat) (E:Env) (h:Qa):Prop:=∃ k,k≤r.length∧m=r.length-k∧Ext hb h ∧
 E.keep [3,6,11,12,13,17,18,19]=[(3,some a3),(6,some (.sc (.int .i64 ((XP (r.take k):Nat):Int)))),(11,some a11),(12,some a12),(13,some a13),(17,some (.sc rs)),(18,some (.sc (.int .i64 (r.length:Nat)))),(19,some (.sc (.int .i64 (k:Nat))))]
def Qk4 (r:List (List Tm)) (a3 a11 a12 a13:AV) (hb:Qa) (ex:Ex) (E:Env) (h:Qa):Prop:=ex=.ex 2∧Ext hb h ∧
 ∃ a b c d,E=[(3,some a3),(6,some (.sc (.int .i64 ((XP r:Nat):Int)))),(11,some a11),(12,some a12),(13,some a13),(17,a),(18,b),(19,c),(20,d)]
theorem Qew (r:List (List Tm)) (rs:SV) (a3 a11 a12 a13:AV) (hb:Qa) (hl:r.length≤1000000) (hll:∀ l∈r,l.length≤1000000) (hS:XP r < 4611686018427387904) (er:Ent1 hb rs r) (m:Nat) (E:Env) (h:Qa) (hI:Qih r rs a3 a11 a12 a13 hb m E h) :
  wA FT HKt QhH (E.keep [3,6,11,12,13,17,18,19]) h (Qp (Qih r rs a3 a11 a12 a13 hb) m (Qk4 r a3 a11 a12 a13 hb)):=by
 obtain ⟨k,hk,rfl,x,hE⟩:=hI
 rw [hE]
 by_cases hlt:k < r.length
 ·obtain ⟨ss,l1,l2,l3⟩:=er
  obtain ⟨ts,hts⟩:∃ x,ss[k]?=some x:=⟨_,Ga (by omega)⟩
  obtain ⟨l,hl⟩:∃ x,r[k]?=some x:=⟨_,Ga (by omega)⟩
  have dt:=l3 k ts l hts hl
  have ll:=hll l (Gh hl)
  obtain ⟨id,off,cap,es,rd⟩:=l2.at hts
  subst es
  have ld:=dt.len
  rw [Q6] at ld
  have rd0:=QH x rd
  have st:=Qd4 hl
  have le:=Qir (r:=r) (k+1)
  generalize hs1:XP (r.take (k+1))=s1 at *
  generalize XP (r.take k)=s0 at *
  repeat' (first | refine Qg ?_ | refine Qb ?_ | refine Qv ?_ | refine Qn ?_ | refine Qf ?_ | ((refine Qh ?_);refine Qj rfl ?_) | ((refine Qe ?_);first | refine Q5 rfl rfl rfl rfl rfl rfl rfl rfl rfl ?_ | refine X6 rfl rfl rfl rfl rfl rfl rfl rfl rfl rfl rfl ?_) | ((refine Qc ?_);first | refine Qw (esz:=1) rfl rfl (by omega) ?_ | refine Q4 rfl rd0 ?_ | refine Qs rfl ld ?_ | refine Qo rfl ?_ | refine Qy rfl rfl (by omega) ?_))
  refine Q9 (Qig l ts s0 a3 a11 a12 a13 (.sc (.slc id off ss.length cap)) (.sc (.int .i64 (r.length:Nat))) (.sc (.int .i64 (k:Nat))) hb) l.length (Qk3 l s0 a3 a11 a12 a13 (.sc (.slc id off ss.length cap)) (.sc (.int .i64 (r.length:Nat))) (.sc (.int .i64 (k:Nat))) hb) ⟨0,Gs _,rfl,x,rfl⟩
   (Qev l ts s0 a3 a11 a12 a13 (.sc (.slc id off ss.length cap)) (.sc (.int .i64 (r.length:Nat))) (.sc (.int .i64 (k:Nat))) hb ll (by omega) dt) ?_
  rintro ex E' h2 ⟨rfl,x2,_,_,_,_,rfl⟩
  rw [← st]
  repeat' (first | refine Qb ?_ | refine QJ ?_ | refine QP ?_ | refine Qf ?_ | ((refine Qe ?_);refine Xa rfl rfl rfl rfl rfl rfl rfl rfl ?_) | ((refine Qc ?_);first | refine Qo rfl ?_ | refine QK rfl rfl (by omega) ?_))
  exact QB (j:=r.length-(k+1)) (by omega) ⟨k+1,by omega,rfl,x2,by rw [hs1];rfl⟩
 ·have:k=r.length:=by omega
  subst this
  repeat' (first | refine Qg ?_ | refine Qb ?_ | refine Q0 ?_ | refine QX ?_ | refine Qf ?_ | ((refine Qh ?_);refine Qk rfl ?_) | ((refine Qe ?_);refine Q5 rfl rfl rfl rfl rfl rfl rfl rfl rfl ?_) | ((refine Qc ?_);refine QM rfl rfl (by omega) ?_))
  rw [Gx]
  exact QN ⟨rfl,x,_,_,_,_,rfl⟩
def Wts (b:Nat) (es:List (List (List Tm))) (T:Nat):Prop:=(es.map XP).foldr (·*·) 1≤2 ^ T∧T≤b*es.length
theorem QeD {l:List Nat} {x:Nat}:(l++[x]).foldr (·*·) 1=l.foldr (·*·) 1*x:=by
 induction l with
 | nil=>simp
 | cons y l ih=>simp only [List.cons_append,List.foldr_cons,ih,Nat.mul_assoc]
theorem Wts.step {b T L i:Nat} {es:List (List (List Tm))} {r:List (List Tm)} (w:Wts b (es.take i) T) (hr:es[i]?=some r) (hL:zF (XP r) L) (hb:XP r < 2 ^ b):Wts b (es.take (i+1)) (T+L):=by
 have hi:=(Gb.1 hr).1
 have e:es.take (i+1)=es.take i++[r]:=by rw [GF,hr];rfl
 refine ⟨?_,?_⟩
 ·rw [e,Hb,Gy,List.map_nil,QeD,Nat.pow_add]
  exact Nat.mul_le_mul w.1 (Hx hL.1)
 ·have hLb:L≤b:=by
   apply Classical.byContradiction
   intro h
   have h1:2 ^ (b+1)≤2 ^ L:=GM (by decide) (by omega)
   rw [Nat.pow_succ] at h1
   have:=hL.2.1
   omega
  have:=w.2
  rw [e,GK,List.length_singleton,Nat.mul_add,G3]
  omega
theorem QjL (h0:Qa) (x:Nat) (hx:0 < x∧x < 18446744073709551616):∃ r h',Cal FT HKt 128 [.sc (.int .u64 (x:Nat))] h0 r h'∧h'=h0∧∃ L:Nat,r=.sc (.int .i64 (L:Nat))∧zF x L:=by
 refine Cal.of (F:=a128) rfl rfl rfl ?_
 have k:=fun H=>QdP H x hx
 repeat' (first | refine Qg ?_ | refine Qb ?_ | refine Qn ?_ | refine Qt ?_ | refine Qf ?_ | ((refine Qh ?_);refine Qk rfl ?_) | ((refine Qe ?_);refine Qq rfl ?_) | ((refine Qc ?_);first | (refine Qi rfl (k _) ?_;rintro v h1 ⟨rfl,L,rfl,hL⟩) | refine Qo rfl ?_))
 exact ⟨.inr rfl,rfl,L,rfl,hL⟩
def I107 (b:Nat) (es:List (List (List Tm))) (esl:SV) (hb:Qa) (m:Nat) (E:Env) (h:Qa):Prop:=∃ i T,i≤es.length∧m=es.length-i∧Ext hb h∧Wts b (es.take i) T ∧
 E.keep [3,11,12,13]=[(3,some (.sc (.int .i64 (T:Nat)))),(11,some (.sc esl)),(12,some (.sc (.int .i64 (es.length:Nat)))),(13,some (.sc (.int .i64 (i:Nat))))]
def R107 (b:Nat) (es:List (List (List Tm))) (hb:Qa) (ex:Ex) (E:Env) (h:Qa):Prop:=ex=.ex 0∧Ext hb h∧∃ T,Wts b es T ∧
 ∃ a c d e,E=[(3,some (.sc (.int .i64 (T:Nat)))),(11,a),(12,c),(13,d),(14,e)]
theorem QfU (b:Nat) (es:List (List (List Tm))) (esl:SV) (hb:Qa) (hb60:b≤60) (hn:es.length≤1000) (ok:∀ r∈es,r.length≤1000000∧(∀ l∈r,l.length≤1000000)∧0 < XP r∧XP r < 2 ^ b) (ee:Ents hb esl es) (m:Nat) (E:Env) (h:Qa) (hI:I107 b es esl hb m E h) :
  wA FT HKt QhI (E.keep [3,11,12,13]) h (Qp (I107 b es esl hb) m (R107 b es hb)):=by
 obtain ⟨i,T,hi,rfl,x,wt,hE⟩:=hI
 rw [hE]
 by_cases hlt:i < es.length
 ·obtain ⟨ss,l1,l2,l3⟩:=ee
  obtain ⟨rs,hrs⟩:∃ x,ss[i]?=some x:=⟨_,Ga (by omega)⟩
  obtain ⟨r,hr⟩:∃ x,es[i]?=some x:=⟨_,Ga (by omega)⟩
  have er:=l3 i rs r hrs hr
  obtain ⟨ok1,ok2,ok3,ok4⟩:=ok r (Gh hr)
  have h60:2 ^ b≤2 ^ 60:=GM (by decide) hb60
  have h60':(2:Nat) ^ 60=1152921504606846976:=by decide
  obtain ⟨id,off,cap,e1,rd⟩:=l2.at hrs
  subst e1
  have ld:=er.len
  have rd0:=QH x rd
  have hT:T≤60*1000:=Gn wt.2 (Nat.mul_le_mul hb60 (by simp;omega))
  repeat' (first | refine Qg ?_ | refine Qb ?_ | refine Qv ?_ | refine Qn ?_ | refine Qf ?_ | ((refine Qh ?_);refine Qj rfl ?_) | ((refine Qe ?_);first | refine QU rfl rfl rfl rfl rfl ?_ | refine QT rfl rfl rfl rfl rfl rfl ?_ | refine Xa rfl rfl rfl rfl rfl rfl rfl rfl ?_) | ((refine Qc ?_);first | refine Qw (esz:=1) rfl rfl (by omega) ?_ | refine Q4 rfl rd0 ?_ | refine Qs rfl ld ?_ | refine Qo rfl ?_ | refine Qy rfl rfl (by omega) ?_))
  refine Q9 (Qih r rs (.sc (.int .i64 (T:Nat))) (.sc (.slc id off ss.length cap)) (.sc (.int .i64 (es.length:Nat))) (.sc (.int .i64 (i:Nat))) hb) r.length (Qk4 r (.sc (.int .i64 (T:Nat))) (.sc (.slc id off ss.length cap)) (.sc (.int .i64 (es.length:Nat))) (.sc (.int .i64 (i:Nat))) hb) ⟨0,Gs _,rfl,x,rfl⟩
   (Qew r rs (.sc (.int .i64 (T:Nat))) (.sc (.slc id off ss.length cap)) (.sc (.int .i64 (es.length:Nat))) (.sc (.int .i64 (i:Nat))) hb ok1 ok2 (by omega) er) ?_
  rintro ex E' h2 ⟨rfl,x2,_,_,_,_,rfl⟩
  have k128:=fun H=>QjL H (XP r) ⟨ok3,by omega⟩
  have stp:=fun L (hL:zF (XP r) L)=>wt.step hr hL ok4
  generalize XP r=W at *
  repeat' (first | refine Qg ?_ | refine Qb ?_ | refine QJ ?_ | refine QP ?_ | refine Qf ?_ | ((refine Qh ?_);refine Qk rfl ?_) | ((refine Qe ?_);first | refine QG rfl rfl rfl rfl ?_ | refine QT rfl rfl rfl rfl rfl rfl ?_) | ((refine Qc ?_);first | refine UI rfl (by omega) ?_ | (refine Qi rfl (k128 _) ?_;rintro v h3 ⟨rfl,L,rfl,hL⟩;have hL64:=hL.2.2) | refine Qo rfl ?_ | refine QK rfl rfl (by omega) ?_ | refine Xf rfl rfl (by omega) ?_))
  exact QB (j:=es.length-(i+1)) (by omega) ⟨i+1,T+L,by omega,rfl,x2,stp L hL,rfl⟩
 ·have:i=es.length:=by omega
  subst this
  rw [Gx] at wt
  repeat' (first | refine Qg ?_ | refine Qb ?_ | refine Q0 ?_ | refine QX ?_ | refine Qf ?_ | ((refine Qh ?_);refine Qk rfl ?_) | ((refine Qe ?_);refine QU rfl rfl rfl rfl rfl ?_) | ((refine Qc ?_);refine QM rfl rfl (by omega) ?_))
  exact QN ⟨rfl,x,T,wt,_,_,_,_,rfl⟩
theorem QjP (b:Nat) (es:List (List (List Tm))) (esl:SV) (h0:Qa) (hb60:b≤60) (hn:es.length≤1000) (ok:∀ r∈es,r.length≤1000000∧(∀ l∈r,l.length≤1000000)∧0 < XP r∧XP r < 2 ^ b) (ee:Ents h0 esl es) :
  ∃ r h',Cal FT HKt 107 [.sc esl] h0 r h'∧Ext h0 h'∧∃ T:Nat,r=.sc (.int .i64 (T:Nat))∧Wts b es T:=by
 refine Cal.of (F:=a107) rfl rfl rfl ?_
 have ls:Yi false esl=some (es.length:Int):=by
  obtain ⟨ss,l1,l2,-⟩:=ee
  rw [← l1];exact IsSl.len l2
 repeat' (first | refine Qg ?_ | refine Qb ?_ | refine Qv ?_ | refine Qf ?_ | ((refine Qe ?_);first | refine Qq rfl ?_ | refine QE rfl rfl ?_ | refine QG rfl rfl rfl rfl ?_) | ((refine Qc ?_);first | refine Qs rfl ls ?_ | refine Qo rfl ?_))
 refine Q9 (I107 b es esl h0) es.length (R107 b es h0) ⟨0,0,Gs _,rfl,Ext.refl _,⟨by simp,by simp⟩,rfl⟩ (QfU b es esl h0 hb60 hn ok ee) ?_
 rintro ex E' h2 ⟨rfl,x2,T,wt,_,_,_,_,rfl⟩
 repeat' (first | refine Qg ?_ | refine Qb ?_ | refine QP ?_ | refine Qt ?_ | refine Qf ?_ | ((refine Qe ?_);refine Qq rfl ?_) | ((refine Qc ?_);refine Qo rfl ?_))
 exact ⟨.inr rfl,x2,T,rfl,wt⟩
