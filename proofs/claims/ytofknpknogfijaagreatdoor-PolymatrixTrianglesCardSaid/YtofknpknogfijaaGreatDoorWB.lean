/- The weight of a matrix: how many bits its coefficients' sums have. -/
import Derived.Test.YtofknpknogfijaaGreatDoorRL1
import Derived.Test.YtofknpknogfijaaGreatDoorW2
import Derived.Test.YtofknpknogfijaaGreatDoorAb50
namespace Go.Proofs.YtofknpknogfijaaGreatDoor
open Go.Ab
set_option linter.unusedVariables false
set_option linter.unusedSimpArgs false
set_option maxRecDepth 20000
set_option maxHeartbeats 4000000
attribute [local irreducible] Qi wA Xk Xj Qz Qo QS QV
set_option linter.unusedSectionVars false
variable [HB]
def YA:List Tm→Nat
  | []=>0
  | t::l=>t.2.natAbs+YA l
def XU:List (List Tm)→Nat
  | []=>0
  | l::r=>YA l+XU r
theorem Qcs {l:List Tm} {j:Nat} {t:Tm} (h:l[j]?=some t):YA (l.take (j+1))=YA (l.take j)+t.2.natAbs:=by
  induction l generalizing j with
  | nil=>simp at h
  | cons y l ih =>
    cases j with
    | zero=>simp at h;subst h;simp [YA]
    | succ j =>
      have:=ih (j:=j) (by simpa using h)
      simp only [List.take_succ_cons,YA]
      omega
theorem Qco {r:List (List Tm)} {j:Nat} {l:List Tm} (h:r[j]?=some l):XU (r.take (j+1))=XU (r.take j)+YA l:=by
  induction r generalizing j with
  | nil=>simp at h
  | cons y r ih =>
    cases j with
    | zero=>simp at h;subst h;simp [XU]
    | succ j =>
      have:=ih (j:=j) (by simpa using h)
      simp only [List.take_succ_cons,XU]
      omega
theorem Qbp {l:List Tm}:∀ j,YA (l.take j)≤YA l:=by
  induction l with
  | nil=>intro j;simp [YA]
  | cons y l ih =>
    intro j
    cases j with
    | zero=>simp [YA]
    | succ j=>have:=ih j;simp only [List.take_succ_cons,YA];omega
theorem QfR {r:List (List Tm)}:∀ j,XU (r.take j)≤XU r:=by
  induction r with
  | nil=>intro j;simp [XU]
  | cons y r ih =>
    intro j
    cases j with
    | zero=>simp [XU]
    | succ j=>have:=ih j;simp only [List.take_succ_cons,XU];omega
def QfL (l:List Tm) (ts:SV) (S0:Nat) (a3 a11 a12 a13 a17 a18 a19:AV) (hb:Qa) (m:Nat) (E:Env) (h:Qa):Prop:=∃ j,j≤l.length∧m=l.length-j∧Ext hb h ∧
  E.keep [3,6,11,12,13,17,18,19,23,24,25]=[(3,some a3),(6,some (.sc (.int .i64 ((S0+YA (l.take j):Nat):Int)))),(11,some a11),(12,some a12),(13,some a13),(17,some a17),(18,some a18),(19,some a19),(23,some (.sc ts)),(24,some (.sc (.int .i64 (l.length:Nat)))),(25,some (.sc (.int .i64 (j:Nat))))]
def Qid (l:List Tm) (S0:Nat) (a3 a11 a12 a13 a17 a18 a19:AV) (hb:Qa) (ex:Ex) (E:Env) (h:Qa):Prop:=ex=.ex 4∧Ext hb h ∧
  ∃ a b c d,E=[(3,some a3),(6,some (.sc (.int .i64 ((S0+YA l:Nat):Int)))),(11,some a11),(12,some a12),(13,some a13),(17,some a17),(18,some a18),(19,some a19),(23,a),(24,b),(25,c),(26,d)]
theorem QcJ (l:List Tm) (ts:SV) (S0:Nat) (a3 a11 a12 a13 a17 a18 a19:AV) (hb:Qa) (hl:l.length≤1000000) (hS:S0+YA l < 4611686018427387904) (dt:IsD hb ts (tms l)) (m:Nat) (E:Env) (h:Qa) (hI:QfL l ts S0 a3 a11 a12 a13 a17 a18 a19 hb m E h) :
    wA FT HKt Qfe (E.keep [3,6,11,12,13,17,18,19,23,24,25]) h (Qo (QfL l ts S0 a3 a11 a12 a13 a17 a18 a19 hb) m (Qid l S0 a3 a11 a12 a13 a17 a18 a19 hb)):=by
  obtain ⟨j,hj,rfl,x,hE⟩:=hI
  rw [hE]
  by_cases hlt:j < l.length
  · obtain ⟨y,hy⟩:∃ y,l[j]?=some y:=⟨_,List.getElem?_eq_getElem hlt⟩
    obtain ⟨id,off,cap,es,rA⟩:=dt.at (i:=j) (p:=tmP y) (by simp [hy])
    rw [XD] at es
    subst es
    have rA0:=QO x rA
    have st:=Qcs hy
    have le:=Qbp (l:=l) (j+1)
    have le0:=Qbp (l:=l) j
    obtain ⟨y1,y2⟩:=y
    simp only at st
    generalize hs1:YA (l.take (j+1))=s1 at *
    generalize YA (l.take j)=s0 at *
    have e1:min (((S0+s0:Nat):Int)+max (y1,y2).2 (-(y1,y2).2)) 4611686018427387904=((S0+s1:Nat):Int):=by simp only;omega
    have x0:=x
    repeat' (first | refine Qh ?_ | refine Qb ?_ | refine Qt ?_ | refine QC ?_ | refine Qn ?_ | refine Qf ?_ | ((refine Qg ?_);refine Qk rfl ?_) | ((refine Qe ?_);first | refine XC rfl rfl rfl rfl rfl rfl rfl rfl rfl rfl rfl ?_ | refine Xh rfl rfl rfl rfl rfl rfl rfl rfl rfl rfl rfl rfl ?_) | ((refine Qc ?_);first | (refine J5 rfl ?_;intro h1 x1 c10;replace x0:=x.trans x1) | refine Xr rfl ?_ | refine Q0 rfl c10 ?_ | refine Yi rfl rA0 ?_ | refine QD (esz:=2) rfl rfl (by omega) ?_ | refine Qp rfl ?_ | refine QK rfl rfl (by omega) ?_ | refine YZ rfl (by omega) ?_ | refine Zh rfl rfl ?_ | refine ZA rfl rfl ?_ | refine Qx rfl rfl (by omega) ?_))
    rw [e1]
    exact Qu (j:=l.length-(j+1)) (by omega) ⟨j+1,by omega,rfl,x0,by rw [hs1];rfl⟩
  · have:j=l.length:=by omega
    subst this
    repeat' (first | refine Qh ?_ | refine Qb ?_ | refine QP ?_ | refine QL ?_ | refine Qf ?_ | ((refine Qg ?_);refine Qj rfl ?_) | ((refine Qe ?_);refine Xh rfl rfl rfl rfl rfl rfl rfl rfl rfl rfl rfl rfl ?_) | ((refine Qc ?_);refine QH rfl rfl (by omega) ?_))
    rw [List.take_length]
    exact QG ⟨rfl,x,_,_,_,_,rfl⟩
def QfM (r:List (List Tm)) (rs:SV) (a3 a11 a12 a13:AV) (hb:Qa) (m:Nat) (E:Env) (h:Qa):Prop:=∃ k,k≤r.length∧m=r.length-k∧Ext hb h ∧
  E.keep [3,6,11,12,13,17,18,19]=[(3,some a3),(6,some (.sc (.int .i64 ((XU (r.take k):Nat):Int)))),(11,some a11),(12,some a12),(13,some a13),(17,some (.sc rs)),(18,some (.sc (.int .i64 (r.length:Nat)))),(19,some (.sc (.int .i64 (k:Nat))))]
def Qie (r:List (List Tm)) (a3 a11 a12 a13:AV) (hb:Qa) (ex:Ex) (E:Env) (h:Qa):Prop:=ex=.ex 2∧Ext hb h ∧
  ∃ a b c d,E=[(3,some a3),(6,some (.sc (.int .i64 ((XU r:Nat):Int)))),(11,some a11),(12,some a12),(13,some a13),(17,a),(18,b),(19,c),(20,d)]
theorem QcK (r:List (List Tm)) (rs:SV) (a3 a11 a12 a13:AV) (hb:Qa) (hl:r.length≤1000000) (hll:∀ l∈r,l.length≤1000000) (hS:XU r < 4611686018427387904) (er:Ent1 hb rs r) (m:Nat) (E:Env) (h:Qa) (hI:QfM r rs a3 a11 a12 a13 hb m E h) :
    wA FT HKt Qff (E.keep [3,6,11,12,13,17,18,19]) h (Qo (QfM r rs a3 a11 a12 a13 hb) m (Qie r a3 a11 a12 a13 hb)):=by
  obtain ⟨k,hk,rfl,x,hE⟩:=hI
  rw [hE]
  by_cases hlt:k < r.length
  · obtain ⟨ss,l1,l2,l3⟩:=er
    obtain ⟨ts,hts⟩:∃ x,ss[k]?=some x:=⟨_,List.getElem?_eq_getElem (by omega)⟩
    obtain ⟨l,hl⟩:∃ x,r[k]?=some x:=⟨_,List.getElem?_eq_getElem (by omega)⟩
    have dt:=l3 k ts l hts hl
    have ll:=hll l (List.mem_of_getElem? hl)
    obtain ⟨id,off,cap,es,rd⟩:=l2.at hts
    subst es
    have ld:=dt.len
    rw [XD] at ld
    have rd0:=QO x rd
    have st:=Qco hl
    have le:=QfR (r:=r) (k+1)
    generalize hs1:XU (r.take (k+1))=s1 at *
    generalize XU (r.take k)=s0 at *
    repeat' (first | refine Qh ?_ | refine Qb ?_ | refine Qt ?_ | refine Qn ?_ | refine Qf ?_ | ((refine Qg ?_);refine Qk rfl ?_) | ((refine Qe ?_);first | refine Q6 rfl rfl rfl rfl rfl rfl rfl rfl rfl ?_ | refine XC rfl rfl rfl rfl rfl rfl rfl rfl rfl rfl rfl ?_) | ((refine Qc ?_);first | refine QD (esz:=1) rfl rfl (by omega) ?_ | refine Xx rfl rd0 ?_ | refine QA rfl ld ?_ | refine Qp rfl ?_ | refine Qx rfl rfl (by omega) ?_))
    refine Q2 (QfL l ts s0 a3 a11 a12 a13 (.sc (.slc id off ss.length cap)) (.sc (.int .i64 (r.length:Nat))) (.sc (.int .i64 (k:Nat))) hb) l.length (Qid l s0 a3 a11 a12 a13 (.sc (.slc id off ss.length cap)) (.sc (.int .i64 (r.length:Nat))) (.sc (.int .i64 (k:Nat))) hb) ⟨0,Nat.zero_le _,rfl,x,rfl⟩
      (QcJ l ts s0 a3 a11 a12 a13 (.sc (.slc id off ss.length cap)) (.sc (.int .i64 (r.length:Nat))) (.sc (.int .i64 (k:Nat))) hb ll (by omega) dt) ?_
    rintro ex E' h2 ⟨rfl,x2,_,_,_,_,rfl⟩
    rw [← st]
    repeat' (first | refine Qb ?_ | refine QC ?_ | refine QE ?_ | refine Qf ?_ | ((refine Qe ?_);refine Q5 rfl rfl rfl rfl rfl rfl rfl rfl ?_) | ((refine Qc ?_);first | refine Qp rfl ?_ | refine QK rfl rfl (by omega) ?_))
    exact Qu (j:=r.length-(k+1)) (by omega) ⟨k+1,by omega,rfl,x2,by rw [hs1];rfl⟩
  · have:k=r.length:=by omega
    subst this
    repeat' (first | refine Qh ?_ | refine Qb ?_ | refine QP ?_ | refine QL ?_ | refine Qf ?_ | ((refine Qg ?_);refine Qj rfl ?_) | ((refine Qe ?_);refine Q6 rfl rfl rfl rfl rfl rfl rfl rfl rfl ?_) | ((refine Qc ?_);refine QH rfl rfl (by omega) ?_))
    rw [List.take_length]
    exact QG ⟨rfl,x,_,_,_,_,rfl⟩
def Wts (b:Nat) (es:List (List (List Tm))) (T:Nat):Prop:=(es.map XU).foldr (·*·) 1≤2 ^ T∧T≤b*es.length
theorem QcR {l:List Nat} {x:Nat}:(l++[x]).foldr (·*·) 1=l.foldr (·*·) 1*x:=by
  induction l with
  | nil=>simp
  | cons y l ih=>simp only [List.cons_append,List.foldr_cons,ih,Nat.mul_assoc]
theorem Wts.step {b T L i:Nat} {es:List (List (List Tm))} {r:List (List Tm)} (w:Wts b (es.take i) T) (hr:es[i]?=some r) (hL:yW (XU r) L) (hb:XU r < 2 ^ b):Wts b (es.take (i+1)) (T+L):=by
  have hi:=(List.getElem?_eq_some_iff.1 hr).1
  have e:es.take (i+1)=es.take i++[r]:=by rw [List.take_add_one,hr];rfl
  refine ⟨?_,?_⟩
  · rw [e,List.map_append,List.map_cons,List.map_nil,QcR,Nat.pow_add]
    exact Nat.mul_le_mul w.1 (Nat.le_of_lt hL.1)
  · have hLb:L≤b:=by
      apply Classical.byContradiction
      intro h
      have h1:2 ^ (b+1)≤2 ^ L:=Nat.pow_le_pow_right (by decide) (by omega)
      rw [Nat.pow_succ] at h1
      have:=hL.2.1
      omega
    have:=w.2
    rw [e,List.length_append,List.length_singleton,Nat.mul_add,Nat.mul_one]
    omega
theorem QgZ (h0:Qa) (x:Nat) (hx:0 < x∧x < 18446744073709551616):∃ r h',Cal FT HKt 128 [.sc (.int .u64 (x:Nat))] h0 r h'∧h'=h0∧∃ L:Nat,r=.sc (.int .i64 (L:Nat))∧yW x L:=by
  refine Cal.of (F:=a128) rfl rfl rfl ?_
  have k:=fun H=>Qb9 H x hx
  repeat' (first | refine Qh ?_ | refine Qb ?_ | refine Qn ?_ | refine Qs ?_ | refine Qf ?_ | ((refine Qg ?_);refine Qj rfl ?_) | ((refine Qe ?_);refine Qr rfl ?_) | ((refine Qc ?_);first | (refine Qm rfl (k _) ?_;rintro v h1 ⟨rfl,L,rfl,hL⟩) | refine Qp rfl ?_))
  exact ⟨.inr rfl,rfl,L,rfl,hL⟩
def I107 (b:Nat) (es:List (List (List Tm))) (esl:SV) (hb:Qa) (m:Nat) (E:Env) (h:Qa):Prop:=∃ i T,i≤es.length∧m=es.length-i∧Ext hb h∧Wts b (es.take i) T ∧
  E.keep [3,11,12,13]=[(3,some (.sc (.int .i64 (T:Nat)))),(11,some (.sc esl)),(12,some (.sc (.int .i64 (es.length:Nat)))),(13,some (.sc (.int .i64 (i:Nat))))]
def R107 (b:Nat) (es:List (List (List Tm))) (hb:Qa) (ex:Ex) (E:Env) (h:Qa):Prop:=ex=.ex 0∧Ext hb h∧∃ T,Wts b es T ∧
  ∃ a c d e,E=[(3,some (.sc (.int .i64 (T:Nat)))),(11,a),(12,c),(13,d),(14,e)]
theorem QdP (b:Nat) (es:List (List (List Tm))) (esl:SV) (hb:Qa) (hb60:b≤60) (hn:es.length≤1000) (ok:∀ r∈es,r.length≤1000000∧(∀ l∈r,l.length≤1000000)∧0 < XU r∧XU r < 2 ^ b) (ee:Ents hb esl es) (m:Nat) (E:Env) (h:Qa) (hI:I107 b es esl hb m E h) :
    wA FT HKt Qfg (E.keep [3,11,12,13]) h (Qo (I107 b es esl hb) m (R107 b es hb)):=by
  obtain ⟨i,T,hi,rfl,x,wt,hE⟩:=hI
  rw [hE]
  by_cases hlt:i < es.length
  · obtain ⟨ss,l1,l2,l3⟩:=ee
    obtain ⟨rs,hrs⟩:∃ x,ss[i]?=some x:=⟨_,List.getElem?_eq_getElem (by omega)⟩
    obtain ⟨r,hr⟩:∃ x,es[i]?=some x:=⟨_,List.getElem?_eq_getElem (by omega)⟩
    have er:=l3 i rs r hrs hr
    obtain ⟨ok1,ok2,ok3,ok4⟩:=ok r (List.mem_of_getElem? hr)
    have h60:2 ^ b≤2 ^ 60:=Nat.pow_le_pow_right (by decide) hb60
    have h60':(2:Nat) ^ 60=1152921504606846976:=by decide
    obtain ⟨id,off,cap,e1,rd⟩:=l2.at hrs
    subst e1
    have ld:=er.len
    have rd0:=QO x rd
    have hT:T≤60*1000:=Nat.le_trans wt.2 (Nat.mul_le_mul hb60 (by simp;omega))
    repeat' (first | refine Qh ?_ | refine Qb ?_ | refine Qt ?_ | refine Qn ?_ | refine Qf ?_ | ((refine Qg ?_);refine Qk rfl ?_) | ((refine Qe ?_);first | refine QU rfl rfl rfl rfl rfl ?_ | refine QM rfl rfl rfl rfl rfl rfl ?_ | refine Q5 rfl rfl rfl rfl rfl rfl rfl rfl ?_) | ((refine Qc ?_);first | refine QD (esz:=1) rfl rfl (by omega) ?_ | refine Xx rfl rd0 ?_ | refine QA rfl ld ?_ | refine Qp rfl ?_ | refine Qx rfl rfl (by omega) ?_))
    refine Q2 (QfM r rs (.sc (.int .i64 (T:Nat))) (.sc (.slc id off ss.length cap)) (.sc (.int .i64 (es.length:Nat))) (.sc (.int .i64 (i:Nat))) hb) r.length (Qie r (.sc (.int .i64 (T:Nat))) (.sc (.slc id off ss.length cap)) (.sc (.int .i64 (es.length:Nat))) (.sc (.int .i64 (i:Nat))) hb) ⟨0,Nat.zero_le _,rfl,x,rfl⟩
      (QcK r rs (.sc (.int .i64 (T:Nat))) (.sc (.slc id off ss.length cap)) (.sc (.int .i64 (es.length:Nat))) (.sc (.int .i64 (i:Nat))) hb ok1 ok2 (by omega) er) ?_
    rintro ex E' h2 ⟨rfl,x2,_,_,_,_,rfl⟩
    have k128:=fun H=>QgZ H (XU r) ⟨ok3,by omega⟩
    have stp:=fun L (hL:yW (XU r) L)=>wt.step hr hL ok4
    generalize XU r=W at *
    repeat' (first | refine Qh ?_ | refine Qb ?_ | refine QC ?_ | refine QE ?_ | refine Qf ?_ | ((refine Qg ?_);refine Qj rfl ?_) | ((refine Qe ?_);first | refine QQ rfl rfl rfl rfl ?_ | refine QM rfl rfl rfl rfl rfl rfl ?_) | ((refine Qc ?_);first | refine zT rfl (by omega) ?_ | (refine Qm rfl (k128 _) ?_;rintro v h3 ⟨rfl,L,rfl,hL⟩;have hL64:=hL.2.2) | refine Qp rfl ?_ | refine QK rfl rfl (by omega) ?_ | refine Xa rfl rfl (by omega) ?_))
    exact Qu (j:=es.length-(i+1)) (by omega) ⟨i+1,T+L,by omega,rfl,x2,stp L hL,rfl⟩
  · have:i=es.length:=by omega
    subst this
    rw [List.take_length] at wt
    repeat' (first | refine Qh ?_ | refine Qb ?_ | refine QP ?_ | refine QL ?_ | refine Qf ?_ | ((refine Qg ?_);refine Qj rfl ?_) | ((refine Qe ?_);refine QU rfl rfl rfl rfl rfl ?_) | ((refine Qc ?_);refine QH rfl rfl (by omega) ?_))
    exact QG ⟨rfl,x,T,wt,_,_,_,_,rfl⟩
theorem Qg3 (b:Nat) (es:List (List (List Tm))) (esl:SV) (h0:Qa) (hb60:b≤60) (hn:es.length≤1000) (ok:∀ r∈es,r.length≤1000000∧(∀ l∈r,l.length≤1000000)∧0 < XU r∧XU r < 2 ^ b) (ee:Ents h0 esl es) :
    ∃ r h',Cal FT HKt 107 [.sc esl] h0 r h'∧Ext h0 h'∧∃ T:Nat,r=.sc (.int .i64 (T:Nat))∧Wts b es T:=by
  refine Cal.of (F:=a107) rfl rfl rfl ?_
  have ls:Yq false esl=some (es.length:Int):=by
    obtain ⟨ss,l1,l2,-⟩:=ee
    rw [← l1];exact IsSl.len l2
  repeat' (first | refine Qh ?_ | refine Qb ?_ | refine Qt ?_ | refine Qf ?_ | ((refine Qe ?_);first | refine Qr rfl ?_ | refine Qv rfl rfl ?_ | refine QQ rfl rfl rfl rfl ?_) | ((refine Qc ?_);first | refine QA rfl ls ?_ | refine Qp rfl ?_))
  refine Q2 (I107 b es esl h0) es.length (R107 b es h0) ⟨0,0,Nat.zero_le _,rfl,Ext.refl _,⟨by simp,by simp⟩,rfl⟩ (QdP b es esl h0 hb60 hn ok ee) ?_
  rintro ex E' h2 ⟨rfl,x2,T,wt,_,_,_,_,rfl⟩
  repeat' (first | refine Qh ?_ | refine Qb ?_ | refine QE ?_ | refine Qs ?_ | refine Qf ?_ | ((refine Qe ?_);refine Qr rfl ?_) | ((refine Qc ?_);refine Qp rfl ?_))
  exact ⟨.inr rfl,x2,T,rfl,wt⟩
end Go.Proofs.YtofknpknogfijaaGreatDoor
