/- The law's own functions: entries,and whether they are small. -/
import Derived.Test.YtofknpknogfijaaGreatDoorDE7
import Derived.Test.YtofknpknogfijaaGreatDoorAb50
import Derived.Test.YtofknpknogfijaaGreatDoorAb51
namespace Go.Proofs.YtofknpknogfijaaGreatDoor
open Go.Ab
set_option linter.unusedVariables false
set_option linter.unusedSimpArgs false
set_option maxRecDepth 20000
set_option maxHeartbeats 4000000
attribute [local irreducible] Qi wA Xk Xj Qz Qo QS QV
set_option linter.unusedSectionVars false
variable [HB]
abbrev Ent:=Int × List Int
def ERow (h:Qa) (s:SV) (r:List Ent):Prop:=∃ ss:List SV,ss.length=r.length∧IsD h s (List.zipWith (fun (p:Ent) t=>(SV.int .i64 p.1,t)) r ss)∧∀ (i:Nat) (p:Ent) (t:SV),r[i]?=some p→ss[i]?=some t→IsInts h t p.2
def EMx (h:Qa) (s:SV) (m:List (List Ent)):Prop:=∃ ss:List SV,ss.length=m.length∧IsSl h s 1 ss.length ss∧∀ (i:Nat) (t:SV) (r:List Ent),ss[i]?=some t→m[i]?=some r→ERow h t r
theorem ERow.len {h:Qa} {s:SV} {r:List Ent} (e:ERow h s r):Yq false s=some (r.length:Int):=by
  obtain ⟨ss,h1,h2,-⟩:=e
  have:=h2.len
  rwa [List.length_zipWith,h1,Nat.min_self] at this
theorem ERow.at {h:Qa} {s:SV} {r:List Ent} (e:ERow h s r) {i:Nat} {p:Ent} (hi:r[i]?=some p):∃ id off cap t,s=.slc id off r.length cap∧QX h id (off+i*2) 2=some [.int .i64 p.1,t]∧IsInts h t p.2:=by
  obtain ⟨ss,h1,h2,h3⟩:=e
  have hl:=(List.getElem?_eq_some_iff.1 hi).1
  obtain ⟨t,ht⟩:∃ t,ss[i]?=some t:=⟨_,List.getElem?_eq_getElem (by omega)⟩
  obtain ⟨id,off,cap,e1,rd⟩:=h2.at (i:=i) (p:=(SV.int .i64 p.1,t)) (by rw [List.getElem?_zipWith,hi,ht])
  rw [List.length_zipWith,h1,Nat.min_self] at e1
  exact ⟨id,off,cap,t,e1,rd,h3 i p t hi ht⟩
theorem EMx.at {h:Qa} {s:SV} {m:List (List Ent)} (e:EMx h s m) {i:Nat} {r:List Ent} (hi:m[i]?=some r):∃ id off cap t,s=.slc id off m.length cap∧QX h id (off+i*1) 1=some [t]∧ERow h t r:=by
  obtain ⟨ss,h1,h2,h3⟩:=e
  have hl:=(List.getElem?_eq_some_iff.1 hi).1
  obtain ⟨t,ht⟩:∃ t,ss[i]?=some t:=⟨_,List.getElem?_eq_getElem (by omega)⟩
  obtain ⟨id,off,cap,e1,rd⟩:=h2.at ht
  rw [h1] at e1
  exact ⟨id,off,cap,t,e1,rd,h3 i t r ht hi⟩
def smE (e:Ent):Prop:=e.2.length≤3 ∧ -10≤e.1∧e.1≤10∧∀ c∈e.2,-4≤c∧c≤4
instance (e:Ent):Decidable (smE e):=by unfold smE;infer_instance
def smN (b:Bool):AV:=.sc (.int .i64 (if b then 1 else 0))
def I19 (e:Ent) (q:Nat) (s:SV) (hb:Qa) (k:Nat) (E:Env) (h:Qa):Prop:=∃ i,i≤e.2.length∧k=e.2.length-i∧h=hb∧(∀ c∈e.2.take i,-4≤c∧c≤4) ∧
  E.keep [1,3]=[(1,some (.sc (.ptr q 0))),(3,some (.sc (.int .i64 (i:Nat))))]
def R19 (e:Ent) (hb:Qa) (ex:Ex) (E:Env) (h:Qa):Prop:=h=hb∧((ex=.ex 0∧(∀ c∈e.2,-4≤c∧c≤4)∧∃ a b c,E=[(1,a),(3,b),(22,c)])∨(ex=.rt∧¬ (∀ c∈e.2,-4≤c∧c≤4)∧E=[(2,some (.sc (.int .i64 0)))]))
theorem Qgl (e:Ent) (q:Nat) (s:SV) (hb:Qa) (hl:e.2.length≤3) (c1:Cel hb q (.int .i64 e.1) s) (hs:IsInts hb s e.2) (k:Nat) (E:Env) (h:Qa) (hI:I19 e q s hb k E h) :
    wA FT HKt QhX (E.keep [1,3]) h (Qo (I19 e q s hb) k (R19 e hb)):=by
  obtain ⟨i,hi,rfl,rfl,hall,hE⟩:=hI
  rw [hE]
  have ls:Yq false s=some (e.2.length:Int):=IsSl.len hs
  by_cases hlt:i < e.2.length
  · obtain ⟨c,hc⟩:∃ c,e.2[i]?=some c:=⟨_,List.getElem?_eq_getElem hlt⟩
    obtain ⟨id,off,cap,es,rd⟩:=IsInts.at hs hc
    subst es
    have hm:=List.mem_of_getElem? hc
    by_cases h1:c < -4
    · repeat' (first | refine Qh ?_ | refine Qb ?_ | refine QF ?_ | refine Qt ?_ | refine Xg ?_ | refine Qn ?_ | refine Qs ?_ | refine Qf ?_ | ((refine Qg ?_);refine Qk rfl ?_) | ((refine Qe ?_);first | refine Qr rfl ?_ | refine Qy rfl rfl rfl ?_) | ((refine Qc ?_);first | refine Xr rfl ?_ | refine Q0 rfl c1 ?_ | refine QA rfl ls ?_ | refine QD (esz:=1) rfl rfl (by omega) ?_ | refine Xx rfl rd ?_ | refine Xn rfl ?_ | refine Qp rfl ?_ | refine Q1 rfl rfl ?_ | refine Qx rfl rfl (by omega) ?_))
      exact XN ⟨rfl,.inr ⟨rfl,fun hf=>by have:=hf c hm;omega,rfl⟩⟩
    · by_cases h2:4 < c
      · repeat' (first | refine Qh ?_ | refine Qb ?_ | refine QF ?_ | refine Qt ?_ | refine Xg ?_ | refine Qn ?_ | refine Qs ?_ | refine Qf ?_ | ((refine Qg ?_);refine Qk rfl ?_) | ((refine Qe ?_);first | refine Qr rfl ?_ | refine Qy rfl rfl rfl ?_) | ((refine Qc ?_);first | refine Xr rfl ?_ | refine Q0 rfl c1 ?_ | refine QA rfl ls ?_ | refine QD (esz:=1) rfl rfl (by omega) ?_ | refine Xx rfl rd ?_ | refine QY rfl ?_ | refine Qp rfl ?_ | refine QT rfl rfl ?_ | refine Qx rfl rfl (by omega) ?_ | refine QH rfl rfl (by omega) ?_ | refine XA rfl rfl (by omega) ?_))
        exact XN ⟨rfl,.inr ⟨rfl,fun hf=>by have:=hf c hm;omega,rfl⟩⟩
      · repeat' (first | refine Qh ?_ | refine Qb ?_ | refine Qt ?_ | refine QC ?_ | refine Qn ?_ | refine Qf ?_ | ((refine Qg ?_);first | refine Qk rfl ?_ | refine Qj rfl ?_) | ((refine Qe ?_);first | refine Qv rfl rfl ?_ | refine Qy rfl rfl rfl ?_) | ((refine Qc ?_);first | refine Xr rfl ?_ | refine Q0 rfl c1 ?_ | refine QA rfl ls ?_ | refine QD (esz:=1) rfl rfl (by omega) ?_ | refine Xx rfl rd ?_ | refine QY rfl ?_ | refine Qp rfl ?_ | refine QT rfl rfl ?_ | refine QK rfl rfl (by omega) ?_ | refine Qx rfl rfl (by omega) ?_ | refine QH rfl rfl (by omega) ?_ | refine Xq rfl rfl (by omega) ?_))
        refine Qu (j:=e.2.length-(i+1)) (by omega) ⟨i+1,by omega,rfl,rfl,fun x hx=>?_,rfl⟩
        rw [List.take_add_one,hc] at hx
        rcases List.mem_append.1 hx with hx | hx
        · exact hall x hx
        · simp at hx;subst hx;omega
  · have:i=e.2.length:=by omega
    subst this
    rw [List.take_length] at hall
    repeat' (first | refine Qh ?_ | refine Qb ?_ | refine QP ?_ | refine QL ?_ | refine Qf ?_ | ((refine Qg ?_);refine Qj rfl ?_) | ((refine Qe ?_);refine Qy rfl rfl rfl ?_) | ((refine Qc ?_);first | refine Xr rfl ?_ | refine Q0 rfl c1 ?_ | refine QA rfl ls ?_ | refine Qp rfl ?_ | refine QH rfl rfl (by omega) ?_))
    exact QG ⟨rfl,.inl ⟨rfl,hall,_,_,_,rfl⟩⟩
theorem QjL (h0:Qa) (e:Ent) (s:SV) (hs:IsInts h0 s e.2):∃ r h',Cal FT HKt 19 [.agg [.int .i64 e.1,s]] h0 r h'∧(Ext h0 h'∧r=smN (decide (smE e))):=by
  refine Cal.of (F:=a19) rfl rfl rfl ?_
  have ls:Yq false s=some (e.2.length:Int):=IsSl.len hs
  by_cases h1:3 < e.2.length
  · rw [show decide (smE e)=false from decide_eq_false fun hf=>by have:=hf.1;omega]
    repeat' (first | refine Qh ?_ | refine Qb ?_ | refine QF ?_ | refine Qs ?_ | refine Qf ?_ | ((refine Qg ?_);refine Qk rfl ?_) | ((refine Qe ?_);first | refine Qr rfl ?_ | refine Qv rfl rfl ?_) | ((refine Qc ?_);first | (refine QR rfl ?_;intro h1 e1 c1) | refine Xr rfl ?_ | refine Q0 rfl c1 ?_ | refine QA rfl ls ?_ | refine Xn rfl ?_ | refine Qp rfl ?_ | refine Q1 rfl rfl ?_ | refine XA rfl rfl (by omega) ?_))
    exact ⟨.inr rfl,e1,rfl⟩
  by_cases h2:e.1 < -10
  · rw [show decide (smE e)=false from decide_eq_false fun hf=>by have:=hf.2.1;omega]
    repeat' (first | refine Qh ?_ | refine Qb ?_ | refine QF ?_ | refine Qs ?_ | refine Qf ?_ | ((refine Qg ?_);refine Qk rfl ?_) | ((refine Qe ?_);first | refine Qr rfl ?_ | refine Qv rfl rfl ?_) | ((refine Qc ?_);first | (refine QR rfl ?_;intro h1 e1 c1) | refine Xr rfl ?_ | refine Q0 rfl c1 ?_ | refine Q4 rfl c1 ?_ | refine QA rfl ls ?_ | refine Xn rfl ?_ | refine QY rfl ?_ | refine Qp rfl ?_ | refine Q1 rfl rfl ?_ | refine QT rfl rfl ?_ | refine Qx rfl rfl (by omega) ?_ | refine Xq rfl rfl (by omega) ?_))
    exact ⟨.inr rfl,e1,rfl⟩
  by_cases h3:10 < e.1
  · rw [show decide (smE e)=false from decide_eq_false fun hf=>by have:=hf.2.2.1;omega]
    repeat' (first | refine Qh ?_ | refine Qb ?_ | refine QF ?_ | refine Qs ?_ | refine Qf ?_ | ((refine Qg ?_);refine Qk rfl ?_) | ((refine Qe ?_);first | refine Qr rfl ?_ | refine Qv rfl rfl ?_) | ((refine Qc ?_);first | (refine QR rfl ?_;intro h1 e1 c1) | refine Xr rfl ?_ | refine Q0 rfl c1 ?_ | refine Q4 rfl c1 ?_ | refine QA rfl ls ?_ | refine QY rfl ?_ | refine Qp rfl ?_ | refine QT rfl rfl ?_ | refine QH rfl rfl (by omega) ?_ | refine XA rfl rfl (by omega) ?_ | refine Xq rfl rfl (by omega) ?_))
    exact ⟨.inr rfl,e1,rfl⟩
  repeat' (first | refine Qh ?_ | refine Qb ?_ | refine Qt ?_ | refine Qn ?_ | refine Qf ?_ | ((refine Qg ?_);refine Qj rfl ?_) | ((refine Qe ?_);first | refine Qr rfl ?_ | refine Qv rfl rfl ?_) | ((refine Qc ?_);first | (refine QR rfl ?_;intro h1 e1 c1) | refine Xr rfl ?_ | refine Q0 rfl c1 ?_ | refine Q4 rfl c1 ?_ | refine QA rfl ls ?_ | refine QY rfl ?_ | refine Qp rfl ?_ | refine QT rfl rfl ?_ | refine QH rfl rfl (by omega) ?_ | refine Xq rfl rfl (by omega) ?_))
  refine Q2 (I19 e h0.length s h1) e.2.length (R19 e h1) ⟨0,Nat.zero_le _,rfl,rfl,by simp,rfl⟩ (Qgl e h0.length s h1 (by omega) c1 (IsSl.ext hs e1)) ?_
  rintro ex E' h4 ⟨rfl,⟨rfl,hf,_,_,_,rfl⟩ | ⟨rfl,hf,rfl⟩⟩
  · rw [show decide (smE e)=true from decide_eq_true ⟨by omega,by omega,by omega,hf⟩]
    repeat' (first | refine Qh ?_ | refine Qb ?_ | refine QE ?_ | refine Qs ?_ | refine Qf ?_ | ((refine Qe ?_);refine Qr rfl ?_) | ((refine Qc ?_);refine Qp rfl ?_))
    exact ⟨.inr rfl,e1,rfl⟩
  · rw [show decide (smE e)=false from decide_eq_false fun hg=>hf hg.2.2.2]
    repeat' (first | refine QF ?_ | refine Xg ?_)
    exact ⟨.inr rfl,e1,rfl⟩
def smR (n:Nat) (r:List Ent):Prop:=r.length≤n∧∀ e∈r,smE e
instance (n:Nat) (r:List Ent):Decidable (smR n r):=by unfold smR;infer_instance
def smM (n:Nat) (l:List (List Ent)):Prop:=l.length≤n∧∀ r∈l,smR n r
instance (n:Nat) (l:List (List Ent)):Decidable (smM n l):=by unfold smM;infer_instance
def I10e (r:List Ent) (ls:SV) (n i:Nat) (hb:Qa) (k:Nat) (E:Env) (h:Qa):Prop:=∃ j,j≤r.length∧k=r.length-j∧Ext hb h∧(∀ e∈r.take j,smE e) ∧
  E.keep [0,1,5,6]=[(0,some (.sc ls)),(1,some (.sc (.int .i64 (n:Nat)))),(5,some (.sc (.int .i64 (i:Nat)))),(6,some (.sc (.int .i64 (j:Nat))))]
def R10e (r:List Ent) (ls:SV) (n i:Nat) (hb:Qa) (ex:Ex) (E:Env) (h:Qa):Prop:=Ext hb h∧((ex=.ex 2∧(∀ e∈r,smE e)∧∃ a b,E=[(0,some (.sc ls)),(1,some (.sc (.int .i64 (n:Nat)))),(5,some (.sc (.int .i64 (i:Nat)))),(6,a),(30,b)])∨(ex=.rt∧¬ (∀ e∈r,smE e)∧E=[(4,some (.sc (.int .i64 0)))]))
def I10 (l:List (List Ent)) (ls:SV) (n:Nat) (hb:Qa) (k:Nat) (E:Env) (h:Qa):Prop:=∃ i,i≤l.length∧k=l.length-i∧Ext hb h∧(∀ r∈l.take i,smR n r) ∧
  E.keep [0,1,5]=[(0,some (.sc ls)),(1,some (.sc (.int .i64 (n:Nat)))),(5,some (.sc (.int .i64 (i:Nat))))]
def R10 (l:List (List Ent)) (n:Nat) (hb:Qa) (ex:Ex) (E:Env) (h:Qa):Prop:=Ext hb h∧((ex=.ex 0∧(∀ r∈l,smR n r)∧∃ a b c d,E=[(0,a),(1,b),(5,c),(14,d)])∨(ex=.rt∧¬ (∀ r∈l,smR n r)∧E=[(4,some (.sc (.int .i64 0)))]))
end Go.Proofs.YtofknpknogfijaaGreatDoor


namespace Go.Proofs.YtofknpknogfijaaGreatDoor
open Go.Ab
set_option linter.unusedVariables false
set_option linter.unusedSimpArgs false
set_option linter.unusedSectionVars false
abbrev Qhe:Int→Qa→List SV→Prop:=fun n _ ss=>ss=[.int .i64 n]∧(Lit.int .i64 n).wf=true
abbrev RIs:List Int→Qa→List SV→Prop:=fun ds h ss=>∃ s l,ss=[s]∧IsSl h s ⟨1,none⟩ ds.length l∧RL Qhe ds h l
abbrev Qhf:Ent→Qa→List SV→Prop:=fun d h ss=>∃ l1 l2,ss=l1++l2∧Qhe d.1 h l1∧RIs d.2 h l2
abbrev RRow:List Ent→Qa→List SV→Prop:=fun ds h ss=>∃ s l,ss=[s]∧IsSl h s ⟨2,none⟩ ds.length l∧RL Qhf ds h l
abbrev RMx:List (List Ent)→Qa→List SV→Prop:=fun ds h ss=>∃ s l,ss=[s]∧IsSl h s ⟨1,none⟩ ds.length l∧RL RRow ds h l
theorem QbD:∀ {ds:List Int} {h:Qa} {l:List SV},RL Qhe ds h l→l=ds.map (.int .i64)
  | [],h,l,e=>e
  | d::ds,h,l,⟨l1,l2,e,⟨a,_⟩,b⟩=>by rw [e,a,QbD b];rfl
theorem RIs.ok {ds:List Int} {h:Qa} {ss:List SV} (a:RIs ds h ss):∃ s,ss=[s]∧IsInts h s ds:=by
  obtain ⟨s,l,e,q,r⟩:=a
  rw [QbD r] at q
  exact ⟨s,e,q⟩
theorem QbE:∀ {ds:List Ent} {h:Qa} {l:List SV},RL Qhf ds h l→∃ ts:List SV,ts.length=ds.length∧l=prs (List.zipWith (fun (p:Ent) t=>(SV.int .i64 p.1,t)) ds ts)∧∀ (i:Nat) (p:Ent) (t:SV),ds[i]?=some p→ts[i]?=some t→IsInts h t p.2
  | [],h,l,e=>⟨[],rfl,e,fun i p t a=>by simp at a⟩
  | d::ds,h,l,⟨l1,l2,e,⟨m1,m2,e2,⟨e3,_⟩,r⟩,b⟩=>by
    obtain ⟨ts,q1,q2,q3⟩:=QbE b
    obtain ⟨s,e4,hs⟩:=r.ok
    refine ⟨s::ts,by simp [q1],?_,fun i p t hi ht=>?_⟩
    · rw [e,e2,e3,e4,q2];rfl
    · cases i with
      | zero=>simp at hi ht;subst hi ht;exact hs
      | succ i=>exact q3 i p t (by simpa using hi) (by simpa using ht)
theorem RRow.ok {ds:List Ent} {h:Qa} {ss:List SV} (a:RRow ds h ss):∃ s,ss=[s]∧ERow h s ds:=by
  obtain ⟨s,l,e,q,r⟩:=a
  obtain ⟨ts,q1,q2,q3⟩:=QbE r
  refine ⟨s,e,ts,q1,?_,q3⟩
  unfold IsD
  rw [List.length_zipWith,q1,Nat.min_self,← q2]
  exact q
theorem QbC:∀ {ds:List (List Ent)} {h:Qa} {l:List SV},RL RRow ds h l→l.length=ds.length∧∀ (i:Nat) (t:SV) (r:List Ent),l[i]?=some t→ds[i]?=some r→ERow h t r
  | [],h,l,e=>by
    have:l=[]:=e
    subst this
    exact ⟨rfl,fun i t r a=>by simp at a⟩
  | d::ds,h,l,⟨l1,l2,e,a,b⟩=>by
    obtain ⟨q1,q2⟩:=QbC b
    obtain ⟨s,e1,hs⟩:=a.ok
    subst e1
    subst e
    refine ⟨by simp [q1],fun i t r hi hr=>?_⟩
    cases i with
    | zero=>simp at hi hr;subst hi hr;exact hs
    | succ i=>exact q2 i t r (by simpa using hi) (by simpa using hr)
theorem RMx.ok {ds:List (List Ent)} {h:Qa} {ss:List SV} (a:RMx ds h ss):∃ s,ss=[s]∧EMx h s ds:=by
  obtain ⟨s,l,e,q,r⟩:=a
  obtain ⟨q1,q2⟩:=QbC r
  refine ⟨s,e,l,q1,?_,q2⟩
  rw [q1]
  exact q
section
variable {H:Type} {enc:TypeId × Value→H} {P:Program} {w:World} {base:Nat} {held:Bool}
theorem QfZ {te ti tl:TypeId} {f0 f1:Field} (he:P.underlying te=some (.struct #[f0,f1])) (h0:f0.type=ti∧f0.offset=0) (h1:f1.type=tl∧f1.offset=1) (hi:P.underlying ti=some (.int .i64)) (hl:P.underlying tl=some (.slice ti))
    (ci:P.cellsOf ti=1) (cl:P.cellsOf tl=1) (ce:P.cellsOf te=2):TOk enc P w base held te 2 Ent Qhf:=by
  have a:TOk enc P w base held ti 1 Int Qhe:=TOk.int hi
  have b:TOk enc P w base held tl 1 (List Int) RIs:=TOk.slice hl ci (by decide) a
  exact TOk.struct2 (c0:=1) (c1:=1) he ⟨h0.2,by rw [h0.1];exact ci⟩ ⟨h1.2,by rw [h1.1];exact cl⟩ ce (by rw [h0.1];exact a) (by rw [h1.1];exact b)
theorem QfY {te tr:TypeId} (hr:P.underlying tr=some (.slice te)) (ce:P.cellsOf te=2) (a:TOk enc P w base held te 2 Ent Qhf):TOk enc P w base held tr 1 (List Ent) RRow:=TOk.slice hr ce (by decide) a
end
end Go.Proofs.YtofknpknogfijaaGreatDoor

