/- The law's own functions: entries,and whether they are small. -/
import Derived.Test.YtofknpknogfijaaGreatDoorDE7
import Derived.Test.YtofknpknogfijaaGreatDoorAb50
namespace Go.Proofs.YtofknpknogfijaaGreatDoor
open Go.Ab
set_option linter.unusedVariables false
set_option linter.unusedSimpArgs false
set_option maxRecDepth 20000
set_option maxHeartbeats 4000000
attribute [local irreducible] Qj wA Xm Xk QI Qo QW QV
set_option linter.unusedSectionVars false
variable [HB]
abbrev Ent:=Int × List Int
def ERow (h:Qa) (s:SV) (r:List Ent):Prop:=∃ ss:List SV,ss.length=r.length∧IsD h s (List.zipWith (fun (p:Ent) t=>(SV.int .i64 p.1,t)) r ss)∧∀ (i:Nat) (p:Ent) (t:SV),r[i]?=some p→ss[i]?=some t→IsInts h t p.2
def EMx (h:Qa) (s:SV) (m:List (List Ent)):Prop:=∃ ss:List SV,ss.length=m.length∧IsSl h s 1 ss.length ss∧∀ (i:Nat) (t:SV) (r:List Ent),ss[i]?=some t→m[i]?=some r→ERow h t r
theorem ERow.ext {h h':Qa} {s:SV} {r:List Ent} (e:ERow h s r) (x:Ext h h'):ERow h' s r:=by
  obtain ⟨ss,h1,h2,h3⟩:=e
  exact ⟨ss,h1,h2.ext x,fun i t l a b=>IsSl.ext (h3 i t l a b) x⟩
theorem EMx.ext {h h':Qa} {s:SV} {m:List (List Ent)} (e:EMx h s m) (x:Ext h h'):EMx h' s m:=by
  obtain ⟨ss,h1,h2,h3⟩:=e
  exact ⟨ss,h1,h2.ext x,fun i t l a b=>(h3 i t l a b).ext x⟩
theorem ERow.len {h:Qa} {s:SV} {r:List Ent} (e:ERow h s r):Ys false s=some (r.length:Int):=by
  obtain ⟨ss,h1,h2,-⟩:=e
  have:=h2.len
  rwa [List.length_zipWith,h1,Nat.min_self] at this
theorem EMx.len {h:Qa} {s:SV} {m:List (List Ent)} (e:EMx h s m):Ys false s=some (m.length:Int):=by
  obtain ⟨ss,h1,h2,-⟩:=e
  rw [← h1];exact IsSl.len h2
theorem ERow.at {h:Qa} {s:SV} {r:List Ent} (e:ERow h s r) {i:Nat} {p:Ent} (hi:r[i]?=some p):∃ id off cap t,s=.slc id off r.length cap∧QT h id (off+i*2) 2=some [.int .i64 p.1,t]∧IsInts h t p.2:=by
  obtain ⟨ss,h1,h2,h3⟩:=e
  have hl:=(List.getElem?_eq_some_iff.1 hi).1
  obtain ⟨t,ht⟩:∃ t,ss[i]?=some t:=⟨_,List.getElem?_eq_getElem (by omega)⟩
  obtain ⟨id,off,cap,e1,rd⟩:=h2.at (i:=i) (p:=(SV.int .i64 p.1,t)) (by rw [List.getElem?_zipWith,hi,ht])
  rw [List.length_zipWith,h1,Nat.min_self] at e1
  exact ⟨id,off,cap,t,e1,rd,h3 i p t hi ht⟩
theorem EMx.at {h:Qa} {s:SV} {m:List (List Ent)} (e:EMx h s m) {i:Nat} {r:List Ent} (hi:m[i]?=some r):∃ id off cap t,s=.slc id off m.length cap∧QT h id (off+i*1) 1=some [t]∧ERow h t r:=by
  obtain ⟨ss,h1,h2,h3⟩:=e
  have hl:=(List.getElem?_eq_some_iff.1 hi).1
  obtain ⟨t,ht⟩:∃ t,ss[i]?=some t:=⟨_,List.getElem?_eq_getElem (by omega)⟩
  obtain ⟨id,off,cap,e1,rd⟩:=h2.at ht
  rw [h1] at e1
  exact ⟨id,off,cap,t,e1,rd,h3 i t r ht hi⟩
def smE (e:Ent):Prop:=e.2.length≤3 ∧ -10≤e.1∧e.1≤10∧∀ c∈e.2,-4≤c∧c≤4
instance (e:Ent):Decidable (smE e):=by unfold smE;infer_instance
def smN (b:Bool):AV:=.sc (.int .i64 (if b then 1 else 0))
def I19 (e:Ent) (q:Nat) (s:SV) (hb:Qa) (k:Nat) (E:Env) (h:Qa):Prop:=∃ i,i≤e.2.length∧k=e.2.length-i∧h=hb∧(∀ c∈e.2.take i,-4≤c∧c≤4) ∧
  E.keep [1,3]=[(1,some (.sc (.ptr q 0))),(3,some (.sc (.int .i64 (i:Nat))))]
def R19 (e:Ent) (hb:Qa) (ex:Ex) (E:Env) (h:Qa):Prop:=h=hb∧((ex=.ex 0∧(∀ c∈e.2,-4≤c∧c≤4)∧∃ a b c,E=[(1,a),(3,b),(22,c)])∨(ex=.rt∧¬ (∀ c∈e.2,-4≤c∧c≤4)∧E=[(2,some (.sc (.int .i64 0)))]))
theorem Qhl (e:Ent) (q:Nat) (s:SV) (hb:Qa) (hl:e.2.length≤3) (c1:Cel hb q (.int .i64 e.1) s) (hs:IsInts hb s e.2) (k:Nat) (E:Env) (h:Qa) (hI:I19 e q s hb k E h) :
    wA FT HKt Qjm (E.keep [1,3]) h (Qo (I19 e q s hb) k (R19 e hb)):=by
  obtain ⟨i,hi,rfl,rfl,hall,hE⟩:=hI
  rw [hE]
  have ls:Ys false s=some (e.2.length:Int):=IsSl.len hs
  by_cases hlt:i < e.2.length
  · obtain ⟨c,hc⟩:∃ c,e.2[i]?=some c:=⟨_,List.getElem?_eq_getElem hlt⟩
    obtain ⟨id,off,cap,es,rd⟩:=IsInts.at hs hc
    subst es
    have hm:=List.mem_of_getElem? hc
    by_cases h1:c < -4
    · repeat' (first | refine Qg ?_ | refine Qb ?_ | refine QL ?_ | refine Qt ?_ | refine Q9 ?_ | refine Qp ?_ | refine Qv ?_ | refine Qf ?_ | ((refine Qh ?_);refine Qk rfl ?_) | ((refine Qe ?_);first | refine Qq rfl ?_ | refine QB rfl rfl rfl ?_) | ((refine Qc ?_);first | refine QQ rfl ?_ | refine Xc rfl c1 ?_ | refine Qu rfl ls ?_ | refine Qx (esz:=1) rfl rfl (by omega) ?_ | refine Q2 rfl rd ?_ | refine Xo rfl ?_ | refine Qm rfl ?_ | refine QY rfl rfl ?_ | refine Qw rfl rfl (by omega) ?_))
      exact Xs ⟨rfl,.inr ⟨rfl,fun hf=>by have:=hf c hm;omega,rfl⟩⟩
    · by_cases h2:4 < c
      · repeat' (first | refine Qg ?_ | refine Qb ?_ | refine QL ?_ | refine Qt ?_ | refine Q9 ?_ | refine Qp ?_ | refine Qv ?_ | refine Qf ?_ | ((refine Qh ?_);refine Qk rfl ?_) | ((refine Qe ?_);first | refine Qq rfl ?_ | refine QB rfl rfl rfl ?_) | ((refine Qc ?_);first | refine QQ rfl ?_ | refine Xc rfl c1 ?_ | refine Qu rfl ls ?_ | refine Qx (esz:=1) rfl rfl (by omega) ?_ | refine Q2 rfl rd ?_ | refine QX rfl ?_ | refine Qm rfl ?_ | refine QU rfl rfl ?_ | refine Qw rfl rfl (by omega) ?_ | refine QE rfl rfl (by omega) ?_ | refine XG rfl rfl (by omega) ?_))
        exact Xs ⟨rfl,.inr ⟨rfl,fun hf=>by have:=hf c hm;omega,rfl⟩⟩
      · repeat' (first | refine Qg ?_ | refine Qb ?_ | refine Qt ?_ | refine QG ?_ | refine Qp ?_ | refine Qf ?_ | ((refine Qh ?_);first | refine Qk rfl ?_ | refine Qi rfl ?_) | ((refine Qe ?_);first | refine Qy rfl rfl ?_ | refine QB rfl rfl rfl ?_) | ((refine Qc ?_);first | refine QQ rfl ?_ | refine Xc rfl c1 ?_ | refine Qu rfl ls ?_ | refine Qx (esz:=1) rfl rfl (by omega) ?_ | refine Q2 rfl rd ?_ | refine QX rfl ?_ | refine Qm rfl ?_ | refine QU rfl rfl ?_ | refine QM rfl rfl (by omega) ?_ | refine Qw rfl rfl (by omega) ?_ | refine QE rfl rfl (by omega) ?_ | refine XA rfl rfl (by omega) ?_))
        refine Qs (j:=e.2.length-(i+1)) (by omega) ⟨i+1,by omega,rfl,rfl,fun x hx=>?_,rfl⟩
        rw [List.take_add_one,hc] at hx
        rcases List.mem_append.1 hx with hx | hx
        · exact hall x hx
        · simp at hx;subst hx;omega
  · have:i=e.2.length:=by omega
    subst this
    rw [List.take_length] at hall
    repeat' (first | refine Qg ?_ | refine Qb ?_ | refine QK ?_ | refine QH ?_ | refine Qf ?_ | ((refine Qh ?_);refine Qi rfl ?_) | ((refine Qe ?_);refine QB rfl rfl rfl ?_) | ((refine Qc ?_);first | refine QQ rfl ?_ | refine Xc rfl c1 ?_ | refine Qu rfl ls ?_ | refine Qm rfl ?_ | refine QE rfl rfl (by omega) ?_))
    exact Qz ⟨rfl,.inl ⟨rfl,hall,_,_,_,rfl⟩⟩
theorem Qlm (h0:Qa) (e:Ent) (s:SV) (hs:IsInts h0 s e.2):∃ r h',Cal FT HKt 19 [.agg [.int .i64 e.1,s]] h0 r h'∧(Ext h0 h'∧r=smN (decide (smE e))):=by
  refine Cal.of (F:=a19) rfl rfl rfl ?_
  have ls:Ys false s=some (e.2.length:Int):=IsSl.len hs
  by_cases h1:3 < e.2.length
  · rw [show decide (smE e)=false from decide_eq_false fun hf=>by have:=hf.1;omega]
    repeat' (first | refine Qg ?_ | refine Qb ?_ | refine QL ?_ | refine Qv ?_ | refine Qf ?_ | ((refine Qh ?_);refine Qk rfl ?_) | ((refine Qe ?_);first | refine Qq rfl ?_ | refine Qy rfl rfl ?_) | ((refine Qc ?_);first | (refine Q3 rfl ?_;intro h1 e1 c1) | refine QQ rfl ?_ | refine Xc rfl c1 ?_ | refine Qu rfl ls ?_ | refine Xo rfl ?_ | refine Qm rfl ?_ | refine QY rfl rfl ?_ | refine XG rfl rfl (by omega) ?_))
    exact ⟨.inr rfl,e1,rfl⟩
  by_cases h2:e.1 < -10
  · rw [show decide (smE e)=false from decide_eq_false fun hf=>by have:=hf.2.1;omega]
    repeat' (first | refine Qg ?_ | refine Qb ?_ | refine QL ?_ | refine Qv ?_ | refine Qf ?_ | ((refine Qh ?_);refine Qk rfl ?_) | ((refine Qe ?_);first | refine Qq rfl ?_ | refine Qy rfl rfl ?_) | ((refine Qc ?_);first | (refine Q3 rfl ?_;intro h1 e1 c1) | refine QQ rfl ?_ | refine Xc rfl c1 ?_ | refine Q6 rfl c1 ?_ | refine Qu rfl ls ?_ | refine Xo rfl ?_ | refine QX rfl ?_ | refine Qm rfl ?_ | refine QY rfl rfl ?_ | refine QU rfl rfl ?_ | refine Qw rfl rfl (by omega) ?_ | refine XA rfl rfl (by omega) ?_))
    exact ⟨.inr rfl,e1,rfl⟩
  by_cases h3:10 < e.1
  · rw [show decide (smE e)=false from decide_eq_false fun hf=>by have:=hf.2.2.1;omega]
    repeat' (first | refine Qg ?_ | refine Qb ?_ | refine QL ?_ | refine Qv ?_ | refine Qf ?_ | ((refine Qh ?_);refine Qk rfl ?_) | ((refine Qe ?_);first | refine Qq rfl ?_ | refine Qy rfl rfl ?_) | ((refine Qc ?_);first | (refine Q3 rfl ?_;intro h1 e1 c1) | refine QQ rfl ?_ | refine Xc rfl c1 ?_ | refine Q6 rfl c1 ?_ | refine Qu rfl ls ?_ | refine QX rfl ?_ | refine Qm rfl ?_ | refine QU rfl rfl ?_ | refine QE rfl rfl (by omega) ?_ | refine XG rfl rfl (by omega) ?_ | refine XA rfl rfl (by omega) ?_))
    exact ⟨.inr rfl,e1,rfl⟩
  repeat' (first | refine Qg ?_ | refine Qb ?_ | refine Qt ?_ | refine Qp ?_ | refine Qf ?_ | ((refine Qh ?_);refine Qi rfl ?_) | ((refine Qe ?_);first | refine Qq rfl ?_ | refine Qy rfl rfl ?_) | ((refine Qc ?_);first | (refine Q3 rfl ?_;intro h1 e1 c1) | refine QQ rfl ?_ | refine Xc rfl c1 ?_ | refine Q6 rfl c1 ?_ | refine Qu rfl ls ?_ | refine QX rfl ?_ | refine Qm rfl ?_ | refine QU rfl rfl ?_ | refine QE rfl rfl (by omega) ?_ | refine XA rfl rfl (by omega) ?_))
  refine QP (I19 e h0.length s h1) e.2.length (R19 e h1) ⟨0,Nat.zero_le _,rfl,rfl,by simp,rfl⟩ (Qhl e h0.length s h1 (by omega) c1 (IsSl.ext hs e1)) ?_
  rintro ex E' h4 ⟨rfl,⟨rfl,hf,_,_,_,rfl⟩ | ⟨rfl,hf,rfl⟩⟩
  · rw [show decide (smE e)=true from decide_eq_true ⟨by omega,by omega,by omega,hf⟩]
    repeat' (first | refine Qg ?_ | refine Qb ?_ | refine QC ?_ | refine Qv ?_ | refine Qf ?_ | ((refine Qe ?_);refine Qq rfl ?_) | ((refine Qc ?_);refine Qm rfl ?_))
    exact ⟨.inr rfl,e1,rfl⟩
  · rw [show decide (smE e)=false from decide_eq_false fun hg=>hf hg.2.2.2]
    repeat' (first | refine QL ?_ | refine Q9 ?_)
    exact ⟨.inr rfl,e1,rfl⟩
def smR (n:Nat) (r:List Ent):Prop:=r.length≤n∧∀ e∈r,smE e
instance (n:Nat) (r:List Ent):Decidable (smR n r):=by unfold smR;infer_instance
def smM (n:Nat) (l:List (List Ent)):Prop:=l.length≤n∧∀ r∈l,smR n r
instance (n:Nat) (l:List (List Ent)):Decidable (smM n l):=by unfold smM;infer_instance
def I10e (r:List Ent) (ls:SV) (n i:Nat) (hb:Qa) (k:Nat) (E:Env) (h:Qa):Prop:=∃ j,j≤r.length∧k=r.length-j∧Ext hb h∧(∀ e∈r.take j,smE e) ∧
  E.keep [0,1,5,6]=[(0,some (.sc ls)),(1,some (.sc (.int .i64 (n:Nat)))),(5,some (.sc (.int .i64 (i:Nat)))),(6,some (.sc (.int .i64 (j:Nat))))]
def R10e (r:List Ent) (ls:SV) (n i:Nat) (hb:Qa) (ex:Ex) (E:Env) (h:Qa):Prop:=Ext hb h∧((ex=.ex 2∧(∀ e∈r,smE e)∧∃ a b,E=[(0,some (.sc ls)),(1,some (.sc (.int .i64 (n:Nat)))),(5,some (.sc (.int .i64 (i:Nat)))),(6,a),(30,b)])∨(ex=.rt∧¬ (∀ e∈r,smE e)∧E=[(4,some (.sc (.int .i64 0)))]))
theorem Qex (l:List (List Ent)) (r:List Ent) (id off:Nat) (cap:Option Nat) (rs:SV) (n i:Nat) (hb:Qa) (hl:r.length≤n) (hn:n≤1000) (hi:i < l.length) (hl2:l.length≤1000) (rd:QT hb id (off+i*1) 1=some [rs]) (er:ERow hb rs r) (k:Nat) (E:Env) (h:Qa) (hI:I10e r (.slc id off l.length cap) n i hb k E h) :
    wA FT HKt Qjv (E.keep [0,1,5,6]) h (Qo (I10e r (.slc id off l.length cap) n i hb) k (R10e r (.slc id off l.length cap) n i hb)):=by
  obtain ⟨j,hj,rfl,x,hall,hE⟩:=hI
  rw [hE]
  have lr:=er.len
  have rd0:=QA x rd
  by_cases hlt:j < r.length
  · obtain ⟨e,he⟩:∃ e,r[j]?=some e:=⟨_,List.getElem?_eq_getElem hlt⟩
    obtain ⟨id2,off2,cap2,t,es,rd2,dt⟩:=er.at he
    subst es
    have rd20:=QA x rd2
    have k19:=Qlm h e t (IsSl.ext dt x)
    have hm:=List.mem_of_getElem? he
    by_cases hs:smE e
    · simp only [decide_eq_true hs,smN] at k19
      repeat' (first | refine Qg ?_ | refine Qb ?_ | refine Qt ?_ | refine QG ?_ | refine Qp ?_ | refine Qf ?_ | ((refine Qh ?_);first | refine Qk rfl ?_ | refine Qi rfl ?_) | ((refine Qe ?_);first | refine QS rfl rfl rfl rfl ?_ | refine QO rfl rfl rfl rfl rfl ?_) | ((refine Qc ?_);first | (have z:=used;refine Qx (esz:=2) rfl rfl (by omega) ?_) | (refine Qx (esz:=1) rfl rfl (by omega) ?_) | (refine Q2 rfl rd0 ?_;have used:=True.intro) | refine Qu rfl lr ?_ | refine Yo rfl rd20 ?_ | (refine Qn rfl k19 ?_;rintro v h1 ⟨e1,rfl⟩) | refine Xh rfl rfl (by decide) ?_ | refine Qm rfl ?_ | refine QM rfl rfl (by omega) ?_ | refine Qw rfl rfl (by omega) ?_))
      refine Qs (j:=r.length-(j+1)) (by omega) ⟨j+1,by omega,rfl,x.trans e1,fun x hx=>?_,rfl⟩
      rw [List.take_add_one,he] at hx
      rcases List.mem_append.1 hx with hx | hx
      · exact hall x hx
      · simp at hx;subst hx;exact hs
    · simp only [decide_eq_false hs,smN] at k19
      repeat' (first | refine Qg ?_ | refine Qb ?_ | refine QL ?_ | refine Qt ?_ | refine Q9 ?_ | refine Qp ?_ | refine Qv ?_ | refine Qf ?_ | ((refine Qh ?_);refine Qk rfl ?_) | ((refine Qe ?_);first | refine Qq rfl ?_ | refine QO rfl rfl rfl rfl rfl ?_) | ((refine Qc ?_);first | (have z:=used;refine Qx (esz:=2) rfl rfl (by omega) ?_) | (refine Qx (esz:=1) rfl rfl (by omega) ?_) | (refine Q2 rfl rd0 ?_;have used:=True.intro) | refine Qu rfl lr ?_ | refine Yo rfl rd20 ?_ | (refine Qn rfl k19 ?_;rintro v h1 ⟨e1,rfl⟩) | refine Xt rfl rfl (by decide) ?_ | refine Qm rfl ?_ | refine Qw rfl rfl (by omega) ?_))
      exact Xs ⟨x.trans e1,.inr ⟨rfl,fun hf=>hs (hf e hm),rfl⟩⟩
  · have:j=r.length:=by omega
    subst this
    rw [List.take_length] at hall
    repeat' (first | refine Qg ?_ | refine Qb ?_ | refine QK ?_ | refine QH ?_ | refine Qf ?_ | ((refine Qh ?_);refine Qi rfl ?_) | ((refine Qe ?_);refine QO rfl rfl rfl rfl rfl ?_) | ((refine Qc ?_);first | (refine Qx (esz:=1) rfl rfl (by omega) ?_) | (refine Q2 rfl rd0 ?_) | refine Qu rfl lr ?_ | refine Qm rfl ?_ | refine QE rfl rfl (by omega) ?_))
    exact Qz ⟨x,.inl ⟨rfl,hall,_,_,rfl⟩⟩
def I10 (l:List (List Ent)) (ls:SV) (n:Nat) (hb:Qa) (k:Nat) (E:Env) (h:Qa):Prop:=∃ i,i≤l.length∧k=l.length-i∧Ext hb h∧(∀ r∈l.take i,smR n r) ∧
  E.keep [0,1,5]=[(0,some (.sc ls)),(1,some (.sc (.int .i64 (n:Nat)))),(5,some (.sc (.int .i64 (i:Nat))))]
def R10 (l:List (List Ent)) (n:Nat) (hb:Qa) (ex:Ex) (E:Env) (h:Qa):Prop:=Ext hb h∧((ex=.ex 0∧(∀ r∈l,smR n r)∧∃ a b c d,E=[(0,a),(1,b),(5,c),(14,d)])∨(ex=.rt∧¬ (∀ r∈l,smR n r)∧E=[(4,some (.sc (.int .i64 0)))]))
theorem Qhs (l:List (List Ent)) (ls:SV) (n:Nat) (hb:Qa) (hn:n≤1000) (hl:l.length≤n) (em:EMx hb ls l) (k:Nat) (E:Env) (h:Qa) (hI:I10 l ls n hb k E h) :
    wA FT HKt Qjw (E.keep [0,1,5]) h (Qo (I10 l ls n hb) k (R10 l n hb)):=by
  obtain ⟨i,hi,rfl,x,hall,hE⟩:=hI
  rw [hE]
  have lm:=em.len
  by_cases hlt:i < l.length
  · obtain ⟨r,hr⟩:∃ r,l[i]?=some r:=⟨_,List.getElem?_eq_getElem hlt⟩
    obtain ⟨id,off,cap,rs,es,rd,er⟩:=em.at hr
    subst es
    have rd0:=QA x rd
    have lr:=er.len
    have hm:=List.mem_of_getElem? hr
    by_cases hln:r.length≤n
    · repeat' (first | refine Qg ?_ | refine Qb ?_ | refine Qt ?_ | refine Qp ?_ | refine Qf ?_ | ((refine Qh ?_);first | refine Qk rfl ?_ | refine Qi rfl ?_) | ((refine Qe ?_);refine QS rfl rfl rfl rfl ?_) | ((refine Qc ?_);first | (refine Qx (esz:=1) rfl rfl (by omega) ?_) | (refine Q2 rfl rd0 ?_) | refine Qu rfl lm ?_ | refine Qu rfl lr ?_ | refine Qm rfl ?_ | refine Qw rfl rfl (by omega) ?_ | refine XA rfl rfl (by omega) ?_))
      refine QP (I10e r (.slc id off l.length cap) n i h) r.length (R10e r (.slc id off l.length cap) n i h) ⟨0,Nat.zero_le _,rfl,Ext.refl _,by simp,rfl⟩ (Qex l r id off cap rs n i h hln hn hlt (by omega) rd0 (er.ext x)) ?_
      rintro ex E' h2 ⟨x2,⟨rfl,hf,_,_,rfl⟩ | ⟨rfl,hf,rfl⟩⟩
      · repeat' (first | refine Qb ?_ | refine QG ?_ | refine QC ?_ | refine Qf ?_ | ((refine Qe ?_);refine QB rfl rfl rfl ?_) | ((refine Qc ?_);first | refine Qm rfl ?_ | refine QM rfl rfl (by omega) ?_))
        refine Qs (j:=l.length-(i+1)) (by omega) ⟨i+1,by omega,rfl,x.trans x2,fun y hy=>?_,rfl⟩
        rw [List.take_add_one,hr] at hy
        rcases List.mem_append.1 hy with hy | hy
        · exact hall y hy
        · simp at hy;subst hy;exact ⟨hln,hf⟩
      · repeat' (first | refine QL ?_ | refine Q9 ?_)
        exact Xs ⟨x.trans x2,.inr ⟨rfl,fun hg=>hf (hg r hm).2,rfl⟩⟩
    · repeat' (first | refine Qg ?_ | refine Qb ?_ | refine QL ?_ | refine Qt ?_ | refine Q9 ?_ | refine Qp ?_ | refine Qv ?_ | refine Qf ?_ | ((refine Qh ?_);refine Qk rfl ?_) | ((refine Qe ?_);first | refine Qq rfl ?_ | refine QS rfl rfl rfl rfl ?_) | ((refine Qc ?_);first | (refine Qx (esz:=1) rfl rfl (by omega) ?_) | (refine Q2 rfl rd0 ?_) | refine Qu rfl lm ?_ | refine Qu rfl lr ?_ | refine Qm rfl ?_ | refine Qw rfl rfl (by omega) ?_ | refine XG rfl rfl (by omega) ?_))
      exact Xs ⟨x,.inr ⟨rfl,fun hg=>hln (hg r hm).1,rfl⟩⟩
  · have:i=l.length:=by omega
    subst this
    rw [List.take_length] at hall
    repeat' (first | refine Qg ?_ | refine Qb ?_ | refine QK ?_ | refine QH ?_ | refine Qf ?_ | ((refine Qh ?_);refine Qi rfl ?_) | ((refine Qe ?_);refine QS rfl rfl rfl rfl ?_) | ((refine Qc ?_);first | refine Qu rfl lm ?_ | refine Qm rfl ?_ | refine QE rfl rfl (by omega) ?_))
    exact Qz ⟨x,.inl ⟨rfl,hall,_,_,_,_,rfl⟩⟩
theorem Qlt (h0:Qa) (l:List (List Ent)) (ls:SV) (n:Nat) (hn:n≤1000) (em:EMx h0 ls l):∃ r h',Cal FT HKt 10 [.sc ls,.sc (.int .i64 (n:Nat))] h0 r h'∧(Ext h0 h'∧r=smN (decide (smM n l))):=by
  refine Cal.of (F:=a10) rfl rfl rfl ?_
  have lm:=em.len
  by_cases h1:l.length≤n
  · repeat' (first | refine Qg ?_ | refine Qb ?_ | refine Qt ?_ | refine Qp ?_ | refine Qf ?_ | ((refine Qh ?_);refine Qi rfl ?_) | ((refine Qe ?_);first | refine Qy rfl rfl ?_ | refine QB rfl rfl rfl ?_) | ((refine Qc ?_);first | refine Qu rfl lm ?_ | refine Qm rfl ?_ | refine XA rfl rfl (by omega) ?_))
    refine QP (I10 l ls n h0) l.length (R10 l n h0) ⟨0,Nat.zero_le _,rfl,Ext.refl _,by simp,rfl⟩ (Qhs l ls n h0 hn h1 em) ?_
    rintro ex E' h4 ⟨x,⟨rfl,hf,_,_,_,_,rfl⟩ | ⟨rfl,hf,rfl⟩⟩
    · rw [show decide (smM n l)=true from decide_eq_true ⟨h1,hf⟩]
      repeat' (first | refine Qg ?_ | refine Qb ?_ | refine QC ?_ | refine Qv ?_ | refine Qf ?_ | ((refine Qe ?_);refine Qq rfl ?_) | ((refine Qc ?_);refine Qm rfl ?_))
      exact ⟨.inr rfl,x,rfl⟩
    · rw [show decide (smM n l)=false from decide_eq_false fun hg=>hf hg.2]
      repeat' (first | refine QL ?_ | refine Q9 ?_)
      exact ⟨.inr rfl,x,rfl⟩
  · rw [show decide (smM n l)=false from decide_eq_false fun hg=>h1 hg.1]
    repeat' (first | refine Qg ?_ | refine Qb ?_ | refine QL ?_ | refine Qv ?_ | refine Qf ?_ | ((refine Qh ?_);refine Qk rfl ?_) | ((refine Qe ?_);first | refine Qq rfl ?_ | refine Qy rfl rfl ?_ | refine QB rfl rfl rfl ?_) | ((refine Qc ?_);first | refine Qu rfl lm ?_ | refine Qm rfl ?_ | refine XG rfl rfl (by omega) ?_))
    exact ⟨.inr rfl,Ext.refl _,rfl⟩
end Go.Proofs.YtofknpknogfijaaGreatDoor


namespace Go.Proofs.YtofknpknogfijaaGreatDoor
open Go.Ab
set_option linter.unusedVariables false
set_option linter.unusedSimpArgs false
set_option maxRecDepth 20000
set_option maxHeartbeats 4000000
attribute [local irreducible] Qj wA Xm Xk QI Qo QW QV
set_option linter.unusedSectionVars false
variable [HB]
def ym (l:List (List Ent)):Nat:=(l.getD 0 []).length
def Uk (l:List (List Ent)):Prop:=∀ r∈l,r.length=ym l
instance (l:List (List Ent)):Decidable (Uk l):=by unfold Uk;infer_instance
def Qd9 (l:List (List Ent)):AV:=if Uk l then .tup [.sc (.int .i64 (l.length:Nat)),.sc (.int .i64 (ym l:Nat)),.sc (.bool true)] else .tup [.sc (.int .i64 0),.sc (.int .i64 0),.sc (.bool false)]
def I32 (l:List (List Ent)) (ls:SV) (hb:Qa) (k:Nat) (E:Env) (h:Qa):Prop:=∃ i,i≤l.length∧k=l.length-i∧h=hb∧(∀ r∈l.take i,r.length=ym l) ∧
  E.keep [0,5]=[(0,some (.sc ls)),(5,some (.sc (.int .i64 (i:Nat))))]
def R32 (l:List (List Ent)) (ls:SV) (hb:Qa) (ex:Ex) (E:Env) (h:Qa):Prop:=h=hb∧((ex=.ex 0∧Uk l∧∃ a b,E=[(0,some (.sc ls)),(5,a),(12,b)])∨(ex=.rt∧¬ Uk l∧E=[(2,some (.sc (.int .i64 0))),(3,some (.sc (.int .i64 0))),(4,some (.sc (.bool false)))]))
theorem Qhj (l:List (List Ent)) (ls:SV) (hb:Qa) (hn:l.length≤1000000) (em:EMx hb ls l) (hl:∀ r∈l,r.length≤1000000) (k:Nat) (E:Env) (h:Qa) (hI:I32 l ls hb k E h) :
    wA FT HKt Qjj (E.keep [0,5]) h (Qo (I32 l ls hb) k (R32 l ls hb)):=by
  obtain ⟨i,hi,rfl,rfl,hall,hE⟩:=hI
  rw [hE]
  have lm:=em.len
  by_cases hlt:i < l.length
  · obtain ⟨r,hr⟩:∃ r,l[i]?=some r:=⟨_,List.getElem?_eq_getElem hlt⟩
    obtain ⟨r0,hr0⟩:∃ r0,l[0]?=some r0:=⟨_,List.getElem?_eq_getElem (by omega)⟩
    have hc:ym l=r0.length:=by unfold ym;rw [List.getD_eq_getElem?_getD,hr0];rfl
    obtain ⟨id,off,cap,rs,es,rd,er⟩:=em.at hr
    obtain ⟨id0,off0,cap0,rs0,es0,rd0,er0⟩:=em.at hr0
    subst es
    obtain ⟨rfl,rfl,-,rfl⟩:=SV.slc.inj es0
    have lr:=er.len
    have lr0:=er0.len
    have m:=List.mem_of_getElem? hr
    have b1:=hl r m
    have b0:=hl r0 (List.mem_of_getElem? hr0)
    by_cases heq:r.length=r0.length
    · repeat' (first | refine Qg ?_ | refine Qb ?_ | refine Qt ?_ | refine QG ?_ | refine Qp ?_ | refine Qf ?_ | refine Xb ?_ | refine Xq ?_ | refine Xr ?_ | ((refine Qh ?_);first | refine Qk rfl ?_ | refine Qi rfl ?_) | ((refine Qe ?_);first | refine Xd ?_ | refine Qy rfl rfl ?_ | refine QB rfl rfl rfl ?_) | ((refine Qc ?_);first | (refine Qx (esz:=1) rfl rfl (by omega) ?_) | refine Q2 rfl rd ?_ | refine Q2 rfl rd0 ?_ | refine Qu rfl lm ?_ | refine Qu rfl lr ?_ | refine Qu rfl lr0 ?_ | refine X3 rfl rfl (by omega) ?_ | refine Qm rfl ?_ | refine QM rfl rfl (by omega) ?_ | refine Qw rfl rfl (by omega) ?_))
      refine Qs (j:=l.length-(i+1)) (by omega) ⟨i+1,by omega,rfl,rfl,fun x hx=>?_,rfl⟩
      rw [List.take_add_one,hr] at hx
      rcases List.mem_append.1 hx with hx | hx
      · exact hall x hx
      · simp at hx;subst hx;rw [hc];exact heq
    · repeat' (first | refine Qg ?_ | refine Qb ?_ | refine QL ?_ | refine Qt ?_ | refine Q9 ?_ | refine Qp ?_ | refine Qv ?_ | refine Qf ?_ | refine Xb ?_ | refine Xq ?_ | refine Xr ?_ | ((refine Qh ?_);refine Qk rfl ?_) | ((refine Qe ?_);first | refine Xd ?_ | refine QB rfl rfl rfl ?_) | ((refine Qc ?_);first | (refine Qx (esz:=1) rfl rfl (by omega) ?_) | refine Q2 rfl rd ?_ | refine Q2 rfl rd0 ?_ | refine Qu rfl lm ?_ | refine Qu rfl lr ?_ | refine Qu rfl lr0 ?_ | refine Yc rfl rfl (by omega) ?_ | refine Qm rfl ?_ | refine Qw rfl rfl (by omega) ?_))
      exact Xs ⟨rfl,.inr ⟨rfl,fun hf=>heq (by rw [← hc];exact hf r m),rfl⟩⟩
  · have:i=l.length:=by omega
    subst this
    rw [List.take_length] at hall
    repeat' (first | refine Qg ?_ | refine Qb ?_ | refine QK ?_ | refine QH ?_ | refine Qf ?_ | ((refine Qh ?_);refine Qi rfl ?_) | ((refine Qe ?_);refine QB rfl rfl rfl ?_) | ((refine Qc ?_);first | refine Qu rfl lm ?_ | refine Qm rfl ?_ | refine QE rfl rfl (by omega) ?_))
    exact Qz ⟨rfl,.inl ⟨rfl,hall,_,_,rfl⟩⟩
theorem Qlk (h0:Qa) (l:List (List Ent)) (ls:SV) (hn:l.length≤1000000) (em:EMx h0 ls l) (hl:∀ r∈l,r.length≤1000000):∃ r h',Cal FT HKt 32 [.sc ls] h0 r h'∧(h'=h0∧r=Qd9 l):=by
  refine Cal.of (F:=a32) rfl rfl rfl ?_
  have lm:=em.len
  rcases l with _ | ⟨r0,rs⟩
  · repeat' (first | refine Qg ?_ | refine Qb ?_ | refine QL ?_ | refine Qv ?_ | refine Qf ?_ | ((refine Qh ?_);refine Qk rfl ?_) | ((refine Qe ?_);first | refine Qq rfl ?_ | refine Qy rfl rfl ?_ | refine QB rfl rfl rfl ?_) | ((refine Qc ?_);first | refine Qu rfl lm ?_ | refine Xt rfl rfl rfl ?_ | refine Qm rfl ?_))
    exact ⟨.inr rfl,rfl,rfl⟩
  · obtain ⟨id0,off0,cap0,rs0,es0,rd0,er0⟩:=em.at (i:=0) (r:=r0) rfl
    subst es0
    have lr0:=er0.len
    have hpos:((r0::rs).length:Int)≠0:=by simp only [List.length_cons];omega
    have hc:ym (r0::rs)=r0.length:=rfl
    generalize hL:r0::rs=L at *
    repeat' (first | refine Qg ?_ | refine Qb ?_ | refine Qt ?_ | refine Qp ?_ | refine Qf ?_ | ((refine Qh ?_);refine Qi rfl ?_) | ((refine Qe ?_);first | refine Qq rfl ?_ | refine Qy rfl rfl ?_) | ((refine Qc ?_);first | refine Qu rfl lm ?_ | refine Xh rfl rfl hpos ?_ | refine Qm rfl ?_))
    refine QP (I32 L (.slc id0 off0 L.length cap0) h0) L.length (R32 L (.slc id0 off0 L.length cap0) h0) ⟨0,Nat.zero_le _,rfl,rfl,by simp,rfl⟩ (Qhj L _ h0 hn em hl) ?_
    rintro ex E' h4 ⟨rfl,⟨rfl,hf,_,_,rfl⟩ | ⟨rfl,hf,rfl⟩⟩
    · have hp:0 < L.length:=by omega
      repeat' (first | refine Qg ?_ | refine Qb ?_ | refine QC ?_ | refine Qv ?_ | refine Xb ?_ | refine Xq ?_ | refine Xr ?_ | ((refine Qe ?_);first | refine Xd ?_ | refine QB rfl rfl rfl ?_) | ((refine Qc ?_);first | (refine Qx (esz:=1) rfl rfl (by omega) ?_) | refine Q2 rfl rd0 ?_ | refine Qu rfl lm ?_ | refine Qu rfl lr0 ?_ | refine Qm rfl ?_))
      refine ⟨.inr rfl,rfl,?_⟩
      unfold Qd9
      rw [if_pos hf,hc]
    · repeat' (first | refine QL ?_ | refine Q9 ?_)
      refine ⟨.inr rfl,rfl,?_⟩
      unfold Qd9
      rw [if_neg hf]
def sqE (l:List (List Ent)):Prop:=∀ r∈l,r.length=l.length
instance (l:List (List Ent)):Decidable (sqE l):=by unfold sqE;infer_instance
theorem sqE_iff {l:List (List Ent)}:sqE l↔Uk l∧l.length=ym l:=by
  rcases l with _ | ⟨r,rs⟩
  · exact ⟨fun _=>⟨fun r h=>by simp at h,rfl⟩,fun _ r h=>by simp at h⟩
  · have hc:ym (r::rs)=r.length:=rfl
    constructor
    · intro h
      have h0:=h r (.head _)
      exact ⟨fun q hq=>by rw [hc,h0];exact h q hq,by rw [hc,h0]⟩
    · rintro ⟨h1,h2⟩ q hq
      rw [h2];exact h1 q hq
theorem Qlq (h0:Qa) (l:List (List Ent)) (ls:SV) (hn:l.length≤1000000) (em:EMx h0 ls l) (hl:∀ r∈l,r.length≤1000000):∃ r h',Cal FT HKt 13 [.sc ls] h0 r h'∧(h'=h0∧r=.sc (.bool (decide (sqE l)))):=by
  refine Cal.of (F:=a13) rfl rfl rfl ?_
  have k32:=Qlk h0 l ls hn em hl
  by_cases hf:Uk l
  · simp only [Qd9,if_pos hf] at k32
    by_cases he:l.length=ym l
    · rw [decide_eq_true (sqE_iff.2 ⟨hf,he⟩)]
      repeat' (first | refine Qg ?_ | refine Qb ?_ | refine Qv ?_ | refine Qf ?_ | ((refine Qe ?_);first | refine Qq rfl ?_ | refine QB rfl rfl rfl ?_) | ((refine Qc ?_);first | (refine Qn rfl k32 ?_;rintro v h1 ⟨rfl,rfl⟩) | refine Xt rfl rfl (by omega) ?_ | refine QX rfl ?_ | refine Qm rfl ?_ | refine QY rfl rfl ?_ | refine X6 rfl rfl ?_))
      exact ⟨.inr rfl,rfl,rfl⟩
    · rw [decide_eq_false fun h=>he (sqE_iff.1 h).2]
      repeat' (first | refine Qg ?_ | refine Qb ?_ | refine Qv ?_ | refine Qf ?_ | ((refine Qe ?_);first | refine Qq rfl ?_ | refine QB rfl rfl rfl ?_) | ((refine Qc ?_);first | (refine Qn rfl k32 ?_;rintro v h1 ⟨rfl,rfl⟩) | refine Xh rfl rfl (by omega) ?_ | refine QX rfl ?_ | refine Qm rfl ?_ | refine QY rfl rfl ?_ | refine X6 rfl rfl ?_))
      exact ⟨.inr rfl,rfl,rfl⟩
  · simp only [Qd9,if_neg hf] at k32
    rw [decide_eq_false fun h=>hf (sqE_iff.1 h).1]
    repeat' (first | refine Qg ?_ | refine Qb ?_ | refine Qv ?_ | refine Qf ?_ | ((refine Qe ?_);first | refine Qq rfl ?_ | refine QB rfl rfl rfl ?_) | ((refine Qc ?_);first | (refine Qn rfl k32 ?_;rintro v h1 ⟨rfl,rfl⟩) | refine Xo rfl ?_ | refine Qm rfl ?_ | refine QU rfl rfl ?_ | refine X6 rfl rfl ?_))
    exact ⟨.inr rfl,rfl,rfl⟩
end Go.Proofs.YtofknpknogfijaaGreatDoor

