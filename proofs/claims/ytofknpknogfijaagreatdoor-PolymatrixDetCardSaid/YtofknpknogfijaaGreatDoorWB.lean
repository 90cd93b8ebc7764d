/- The weight of a matrix: how many bits its coefficients' sums have. -/
import Derived.Test.YtofknpknogfijaaGreatDoorRL1
import Derived.Test.YtofknpknogfijaaGreatDoorW2
import Derived.Test.YtofknpknogfijaaGreatDoorAb50
namespace Go.Proofs.YtofknpknogfijaaGreatDoor
open Go.Ab
set_option linter.unusedVariables false
set_option linter.unusedSimpArgs false
set_option maxRecDepth 20000
set_option maxHeartbeats 4000000
attribute [local irreducible] Qj wA Xm Xk QI Qo QW QV
set_option linter.unusedSectionVars false
variable [HB]
def Yr:List Tm→Nat
  | []=>0
  | t::l=>t.2.natAbs+Yr l
def XT:List (List Tm)→Nat
  | []=>0
  | l::r=>Yr l+XT r
theorem Qc1 {l:List Tm} {j:Nat} {t:Tm} (h:l[j]?=some t):Yr (l.take (j+1))=Yr (l.take j)+t.2.natAbs:=by
  induction l generalizing j with
  | nil=>simp at h
  | cons y l ih =>
    cases j with
    | zero=>simp at h;subst h;simp [Yr]
    | succ j =>
      have:=ih (j:=j) (by simpa using h)
      simp only [List.take_succ_cons,Yr]
      omega
theorem QcY {r:List (List Tm)} {j:Nat} {l:List Tm} (h:r[j]?=some l):XT (r.take (j+1))=XT (r.take j)+Yr l:=by
  induction r generalizing j with
  | nil=>simp at h
  | cons y r ih =>
    cases j with
    | zero=>simp at h;subst h;simp [XT]
    | succ j =>
      have:=ih (j:=j) (by simpa using h)
      simp only [List.take_succ_cons,XT]
      omega
theorem Qb1 {l:List Tm}:∀ j,Yr (l.take j)≤Yr l:=by
  induction l with
  | nil=>intro j;simp [Yr]
  | cons y l ih =>
    intro j
    cases j with
    | zero=>simp [Yr]
    | succ j=>have:=ih j;simp only [List.take_succ_cons,Yr];omega
theorem QgP {r:List (List Tm)}:∀ j,XT (r.take j)≤XT r:=by
  induction r with
  | nil=>intro j;simp [XT]
  | cons y r ih =>
    intro j
    cases j with
    | zero=>simp [XT]
    | succ j=>have:=ih j;simp only [List.take_succ_cons,XT];omega
def QgJ (l:List Tm) (ts:SV) (S0:Nat) (a3 a11 a12 a13 a17 a18 a19:AV) (hb:Qa) (m:Nat) (E:Env) (h:Qa):Prop:=∃ j,j≤l.length∧m=l.length-j∧Ext hb h ∧
  E.keep [3,6,11,12,13,17,18,19,23,24,25]=[(3,some a3),(6,some (.sc (.int .i64 ((S0+Yr (l.take j):Nat):Int)))),(11,some a11),(12,some a12),(13,some a13),(17,some a17),(18,some a18),(19,some a19),(23,some (.sc ts)),(24,some (.sc (.int .i64 (l.length:Nat)))),(25,some (.sc (.int .i64 (j:Nat))))]
def QjM (l:List Tm) (S0:Nat) (a3 a11 a12 a13 a17 a18 a19:AV) (hb:Qa) (ex:Ex) (E:Env) (h:Qa):Prop:=ex=.ex 4∧Ext hb h ∧
  ∃ a b c d,E=[(3,some a3),(6,some (.sc (.int .i64 ((S0+Yr l:Nat):Int)))),(11,some a11),(12,some a12),(13,some a13),(17,some a17),(18,some a18),(19,some a19),(23,a),(24,b),(25,c),(26,d)]
theorem Qdi (l:List Tm) (ts:SV) (S0:Nat) (a3 a11 a12 a13 a17 a18 a19:AV) (hb:Qa) (hl:l.length≤1000000) (hS:S0+Yr l < 4611686018427387904) (dt:IsD hb ts (tms l)) (m:Nat) (E:Env) (h:Qa) (hI:QgJ l ts S0 a3 a11 a12 a13 a17 a18 a19 hb m E h) :
    wA FT HKt Qgb (E.keep [3,6,11,12,13,17,18,19,23,24,25]) h (Qo (QgJ l ts S0 a3 a11 a12 a13 a17 a18 a19 hb) m (QjM l S0 a3 a11 a12 a13 a17 a18 a19 hb)):=by
  obtain ⟨j,hj,rfl,x,hE⟩:=hI
  rw [hE]
  by_cases hlt:j < l.length
  · obtain ⟨y,hy⟩:∃ y,l[j]?=some y:=⟨_,List.getElem?_eq_getElem hlt⟩
    obtain ⟨id,off,cap,es,rA⟩:=dt.at (i:=j) (p:=tmP y) (by simp [hy])
    rw [Xg] at es
    subst es
    have rA0:=QA x rA
    have st:=Qc1 hy
    have le:=Qb1 (l:=l) (j+1)
    have le0:=Qb1 (l:=l) j
    obtain ⟨y1,y2⟩:=y
    simp only at st
    generalize hs1:Yr (l.take (j+1))=s1 at *
    generalize Yr (l.take j)=s0 at *
    have e1:min (((S0+s0:Nat):Int)+max (y1,y2).2 (-(y1,y2).2)) 4611686018427387904=((S0+s1:Nat):Int):=by simp only;omega
    have x0:=x
    repeat' (first | refine Qg ?_ | refine Qb ?_ | refine Qt ?_ | refine QG ?_ | refine Qp ?_ | refine Qf ?_ | ((refine Qh ?_);refine Qk rfl ?_) | ((refine Qe ?_);first | refine XX rfl rfl rfl rfl rfl rfl rfl rfl rfl rfl rfl ?_ | refine XB rfl rfl rfl rfl rfl rfl rfl rfl rfl rfl rfl rfl ?_) | ((refine Qc ?_);first | (refine J3 rfl ?_;intro h1 x1 c10;replace x0:=x.trans x1) | refine QQ rfl ?_ | refine Xc rfl c10 ?_ | refine Yo rfl rA0 ?_ | refine Qx (esz:=2) rfl rfl (by omega) ?_ | refine Qm rfl ?_ | refine QM rfl rfl (by omega) ?_ | refine Y1 rfl (by omega) ?_ | refine J4 rfl rfl ?_ | refine yb rfl rfl ?_ | refine Qw rfl rfl (by omega) ?_))
    rw [e1]
    exact Qs (j:=l.length-(j+1)) (by omega) ⟨j+1,by omega,rfl,x0,by rw [hs1];rfl⟩
  · have:j=l.length:=by omega
    subst this
    repeat' (first | refine Qg ?_ | refine Qb ?_ | refine QK ?_ | refine QH ?_ | refine Qf ?_ | ((refine Qh ?_);refine Qi rfl ?_) | ((refine Qe ?_);refine XB rfl rfl rfl rfl rfl rfl rfl rfl rfl rfl rfl rfl ?_) | ((refine Qc ?_);refine QE rfl rfl (by omega) ?_))
    rw [List.take_length]
    exact Qz ⟨rfl,x,_,_,_,_,rfl⟩
def QgK (r:List (List Tm)) (rs:SV) (a3 a11 a12 a13:AV) (hb:Qa) (m:Nat) (E:Env) (h:Qa):Prop:=∃ k,k≤r.length∧m=r.length-k∧Ext hb h ∧
  E.keep [3,6,11,12,13,17,18,19]=[(3,some a3),(6,some (.sc (.int .i64 ((XT (r.take k):Nat):Int)))),(11,some a11),(12,some a12),(13,some a13),(17,some (.sc rs)),(18,some (.sc (.int .i64 (r.length:Nat)))),(19,some (.sc (.int .i64 (k:Nat))))]
def QjN (r:List (List Tm)) (a3 a11 a12 a13:AV) (hb:Qa) (ex:Ex) (E:Env) (h:Qa):Prop:=ex=.ex 2∧Ext hb h ∧
  ∃ a b c d,E=[(3,some a3),(6,some (.sc (.int .i64 ((XT r:Nat):Int)))),(11,some a11),(12,some a12),(13,some a13),(17,a),(18,b),(19,c),(20,d)]
theorem Qdj (r:List (List Tm)) (rs:SV) (a3 a11 a12 a13:AV) (hb:Qa) (hl:r.length≤1000000) (hll:∀ l∈r,l.length≤1000000) (hS:XT r < 4611686018427387904) (er:Ent1 hb rs r) (m:Nat) (E:Env) (h:Qa) (hI:QgK r rs a3 a11 a12 a13 hb m E h) :
    wA FT HKt Qgc (E.keep [3,6,11,12,13,17,18,19]) h (Qo (QgK r rs a3 a11 a12 a13 hb) m (QjN r a3 a11 a12 a13 hb)):=by
  obtain ⟨k,hk,rfl,x,hE⟩:=hI
  rw [hE]
  by_cases hlt:k < r.length
  · obtain ⟨ss,l1,l2,l3⟩:=er
    obtain ⟨ts,hts⟩:∃ x,ss[k]?=some x:=⟨_,List.getElem?_eq_getElem (by omega)⟩
    obtain ⟨l,hl⟩:∃ x,r[k]?=some x:=⟨_,List.getElem?_eq_getElem (by omega)⟩
    have dt:=l3 k ts l hts hl
    have ll:=hll l (List.mem_of_getElem? hl)
    obtain ⟨id,off,cap,es,rd⟩:=l2.at hts
    subst es
    have ld:=dt.len
    rw [Xg] at ld
    have rd0:=QA x rd
    have st:=QcY hl
    have le:=QgP (r:=r) (k+1)
    generalize hs1:XT (r.take (k+1))=s1 at *
    generalize XT (r.take k)=s0 at *
    repeat' (first | refine Qg ?_ | refine Qb ?_ | refine Qt ?_ | refine Qp ?_ | refine Qf ?_ | ((refine Qh ?_);refine Qk rfl ?_) | ((refine Qe ?_);first | refine Xj rfl rfl rfl rfl rfl rfl rfl rfl rfl ?_ | refine XX rfl rfl rfl rfl rfl rfl rfl rfl rfl rfl rfl ?_) | ((refine Qc ?_);first | refine Qx (esz:=1) rfl rfl (by omega) ?_ | refine Q2 rfl rd0 ?_ | refine Qu rfl ld ?_ | refine Qm rfl ?_ | refine Qw rfl rfl (by omega) ?_))
    refine QP (QgJ l ts s0 a3 a11 a12 a13 (.sc (.slc id off ss.length cap)) (.sc (.int .i64 (r.length:Nat))) (.sc (.int .i64 (k:Nat))) hb) l.length (QjM l s0 a3 a11 a12 a13 (.sc (.slc id off ss.length cap)) (.sc (.int .i64 (r.length:Nat))) (.sc (.int .i64 (k:Nat))) hb) ⟨0,Nat.zero_le _,rfl,x,rfl⟩
      (Qdi l ts s0 a3 a11 a12 a13 (.sc (.slc id off ss.length cap)) (.sc (.int .i64 (r.length:Nat))) (.sc (.int .i64 (k:Nat))) hb ll (by omega) dt) ?_
    rintro ex E' h2 ⟨rfl,x2,_,_,_,_,rfl⟩
    rw [← st]
    repeat' (first | refine Qb ?_ | refine QG ?_ | refine QC ?_ | refine Qf ?_ | ((refine Qe ?_);refine Q8 rfl rfl rfl rfl rfl rfl rfl rfl ?_) | ((refine Qc ?_);first | refine Qm rfl ?_ | refine QM rfl rfl (by omega) ?_))
    exact Qs (j:=r.length-(k+1)) (by omega) ⟨k+1,by omega,rfl,x2,by rw [hs1];rfl⟩
  · have:k=r.length:=by omega
    subst this
    repeat' (first | refine Qg ?_ | refine Qb ?_ | refine QK ?_ | refine QH ?_ | refine Qf ?_ | ((refine Qh ?_);refine Qi rfl ?_) | ((refine Qe ?_);refine Xj rfl rfl rfl rfl rfl rfl rfl rfl rfl ?_) | ((refine Qc ?_);refine QE rfl rfl (by omega) ?_))
    rw [List.take_length]
    exact Qz ⟨rfl,x,_,_,_,_,rfl⟩
def Wts (b:Nat) (es:List (List (List Tm))) (T:Nat):Prop:=(es.map XT).foldr (·*·) 1≤2 ^ T∧T≤b*es.length
theorem Qdq {l:List Nat} {x:Nat}:(l++[x]).foldr (·*·) 1=l.foldr (·*·) 1*x:=by
  induction l with
  | nil=>simp
  | cons y l ih=>simp only [List.cons_append,List.foldr_cons,ih,Nat.mul_assoc]
theorem Wts.step {b T L i:Nat} {es:List (List (List Tm))} {r:List (List Tm)} (w:Wts b (es.take i) T) (hr:es[i]?=some r) (hL:y9 (XT r) L) (hb:XT r < 2 ^ b):Wts b (es.take (i+1)) (T+L):=by
  have hi:=(List.getElem?_eq_some_iff.1 hr).1
  have e:es.take (i+1)=es.take i++[r]:=by rw [List.take_add_one,hr];rfl
  refine ⟨?_,?_⟩
  · rw [e,List.map_append,List.map_cons,List.map_nil,Qdq,Nat.pow_add]
    exact Nat.mul_le_mul w.1 (Nat.le_of_lt hL.1)
  · have hLb:L≤b:=by
      apply Classical.byContradiction
      intro h
      have h1:2 ^ (b+1)≤2 ^ L:=Nat.pow_le_pow_right (by decide) (by omega)
      rw [Nat.pow_succ] at h1
      have:=hL.2.1
      omega
    have:=w.2
    rw [e,List.length_append,List.length_singleton,Nat.mul_add,Nat.mul_one]
    omega
theorem Qib (h0:Qa) (x:Nat) (hx:0 < x∧x < 18446744073709551616):∃ r h',Cal FT HKt 128 [.sc (.int .u64 (x:Nat))] h0 r h'∧h'=h0∧∃ L:Nat,r=.sc (.int .i64 (L:Nat))∧y9 x L:=by
  refine Cal.of (F:=a128) rfl rfl rfl ?_
  have k:=fun H=>QcN H x hx
  repeat' (first | refine Qg ?_ | refine Qb ?_ | refine Qp ?_ | refine Qv ?_ | refine Qf ?_ | ((refine Qh ?_);refine Qi rfl ?_) | ((refine Qe ?_);refine Qq rfl ?_) | ((refine Qc ?_);first | (refine Qn rfl (k _) ?_;rintro v h1 ⟨rfl,L,rfl,hL⟩) | refine Qm rfl ?_))
  exact ⟨.inr rfl,rfl,L,rfl,hL⟩
def I107 (b:Nat) (es:List (List (List Tm))) (esl:SV) (hb:Qa) (m:Nat) (E:Env) (h:Qa):Prop:=∃ i T,i≤es.length∧m=es.length-i∧Ext hb h∧Wts b (es.take i) T ∧
  E.keep [3,11,12,13]=[(3,some (.sc (.int .i64 (T:Nat)))),(11,some (.sc esl)),(12,some (.sc (.int .i64 (es.length:Nat)))),(13,some (.sc (.int .i64 (i:Nat))))]
def R107 (b:Nat) (es:List (List (List Tm))) (hb:Qa) (ex:Ex) (E:Env) (h:Qa):Prop:=ex=.ex 0∧Ext hb h∧∃ T,Wts b es T ∧
  ∃ a c d e,E=[(3,some (.sc (.int .i64 (T:Nat)))),(11,a),(12,c),(13,d),(14,e)]
theorem Qey (b:Nat) (es:List (List (List Tm))) (esl:SV) (hb:Qa) (hb60:b≤60) (hn:es.length≤1000) (ok:∀ r∈es,r.length≤1000000∧(∀ l∈r,l.length≤1000000)∧0 < XT r∧XT r < 2 ^ b) (ee:Ents hb esl es) (m:Nat) (E:Env) (h:Qa) (hI:I107 b es esl hb m E h) :
    wA FT HKt Qgd (E.keep [3,11,12,13]) h (Qo (I107 b es esl hb) m (R107 b es hb)):=by
  obtain ⟨i,T,hi,rfl,x,wt,hE⟩:=hI
  rw [hE]
  by_cases hlt:i < es.length
  · obtain ⟨ss,l1,l2,l3⟩:=ee
    obtain ⟨rs,hrs⟩:∃ x,ss[i]?=some x:=⟨_,List.getElem?_eq_getElem (by omega)⟩
    obtain ⟨r,hr⟩:∃ x,es[i]?=some x:=⟨_,List.getElem?_eq_getElem (by omega)⟩
    have er:=l3 i rs r hrs hr
    obtain ⟨ok1,ok2,ok3,ok4⟩:=ok r (List.mem_of_getElem? hr)
    have h60:2 ^ b≤2 ^ 60:=Nat.pow_le_pow_right (by decide) hb60
    have h60':(2:Nat) ^ 60=1152921504606846976:=by decide
    obtain ⟨id,off,cap,e1,rd⟩:=l2.at hrs
    subst e1
    have ld:=er.len
    have rd0:=QA x rd
    have hT:T≤60*1000:=Nat.le_trans wt.2 (Nat.mul_le_mul hb60 (by simp;omega))
    repeat' (first | refine Qg ?_ | refine Qb ?_ | refine Qt ?_ | refine Qp ?_ | refine Qf ?_ | ((refine Qh ?_);refine Qk rfl ?_) | ((refine Qe ?_);first | refine QO rfl rfl rfl rfl rfl ?_ | refine QD rfl rfl rfl rfl rfl rfl ?_ | refine Q8 rfl rfl rfl rfl rfl rfl rfl rfl ?_) | ((refine Qc ?_);first | refine Qx (esz:=1) rfl rfl (by omega) ?_ | refine Q2 rfl rd0 ?_ | refine Qu rfl ld ?_ | refine Qm rfl ?_ | refine Qw rfl rfl (by omega) ?_))
    refine QP (QgK r rs (.sc (.int .i64 (T:Nat))) (.sc (.slc id off ss.length cap)) (.sc (.int .i64 (es.length:Nat))) (.sc (.int .i64 (i:Nat))) hb) r.length (QjN r (.sc (.int .i64 (T:Nat))) (.sc (.slc id off ss.length cap)) (.sc (.int .i64 (es.length:Nat))) (.sc (.int .i64 (i:Nat))) hb) ⟨0,Nat.zero_le _,rfl,x,rfl⟩
      (Qdj r rs (.sc (.int .i64 (T:Nat))) (.sc (.slc id off ss.length cap)) (.sc (.int .i64 (es.length:Nat))) (.sc (.int .i64 (i:Nat))) hb ok1 ok2 (by omega) er) ?_
    rintro ex E' h2 ⟨rfl,x2,_,_,_,_,rfl⟩
    have k128:=fun H=>Qib H (XT r) ⟨ok3,by omega⟩
    have stp:=fun L (hL:y9 (XT r) L)=>wt.step hr hL ok4
    generalize XT r=W at *
    repeat' (first | refine Qg ?_ | refine Qb ?_ | refine QG ?_ | refine QC ?_ | refine Qf ?_ | ((refine Qh ?_);refine Qi rfl ?_) | ((refine Qe ?_);first | refine QS rfl rfl rfl rfl ?_ | refine QD rfl rfl rfl rfl rfl rfl ?_) | ((refine Qc ?_);first | refine yX rfl (by omega) ?_ | (refine Qn rfl (k128 _) ?_;rintro v h3 ⟨rfl,L,rfl,hL⟩;have hL64:=hL.2.2) | refine Qm rfl ?_ | refine QM rfl rfl (by omega) ?_ | refine Xh rfl rfl (by omega) ?_))
    exact Qs (j:=es.length-(i+1)) (by omega) ⟨i+1,T+L,by omega,rfl,x2,stp L hL,rfl⟩
  · have:i=es.length:=by omega
    subst this
    rw [List.take_length] at wt
    repeat' (first | refine Qg ?_ | refine Qb ?_ | refine QK ?_ | refine QH ?_ | refine Qf ?_ | ((refine Qh ?_);refine Qi rfl ?_) | ((refine Qe ?_);refine QO rfl rfl rfl rfl rfl ?_) | ((refine Qc ?_);refine QE rfl rfl (by omega) ?_))
    exact Qz ⟨rfl,x,T,wt,_,_,_,_,rfl⟩
theorem Qih (b:Nat) (es:List (List (List Tm))) (esl:SV) (h0:Qa) (hb60:b≤60) (hn:es.length≤1000) (ok:∀ r∈es,r.length≤1000000∧(∀ l∈r,l.length≤1000000)∧0 < XT r∧XT r < 2 ^ b) (ee:Ents h0 esl es) :
    ∃ r h',Cal FT HKt 107 [.sc esl] h0 r h'∧Ext h0 h'∧∃ T:Nat,r=.sc (.int .i64 (T:Nat))∧Wts b es T:=by
  refine Cal.of (F:=a107) rfl rfl rfl ?_
  have ls:Ys false esl=some (es.length:Int):=by
    obtain ⟨ss,l1,l2,-⟩:=ee
    rw [← l1];exact IsSl.len l2
  repeat' (first | refine Qg ?_ | refine Qb ?_ | refine Qt ?_ | refine Qf ?_ | ((refine Qe ?_);first | refine Qq rfl ?_ | refine Qy rfl rfl ?_ | refine QS rfl rfl rfl rfl ?_) | ((refine Qc ?_);first | refine Qu rfl ls ?_ | refine Qm rfl ?_))
  refine QP (I107 b es esl h0) es.length (R107 b es h0) ⟨0,0,Nat.zero_le _,rfl,Ext.refl _,⟨by simp,by simp⟩,rfl⟩ (Qey b es esl h0 hb60 hn ok ee) ?_
  rintro ex E' h2 ⟨rfl,x2,T,wt,_,_,_,_,rfl⟩
  repeat' (first | refine Qg ?_ | refine Qb ?_ | refine QC ?_ | refine Qv ?_ | refine Qf ?_ | ((refine Qe ?_);refine Qq rfl ?_) | ((refine Qc ?_);refine Qm rfl ?_))
  exact ⟨.inr rfl,x2,T,rfl,wt⟩
end Go.Proofs.YtofknpknogfijaaGreatDoor
