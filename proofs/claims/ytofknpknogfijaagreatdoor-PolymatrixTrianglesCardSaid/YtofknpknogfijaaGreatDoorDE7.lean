/- The determinant: the checks of its form. -/
import Derived.Test.YtofknpknogfijaaGreatDoorPD1
import Derived.Test.YtofknpknogfijaaGreatDoorMN2
import Derived.Test.YtofknpknogfijaaGreatDoorAb50
namespace Go.Proofs.YtofknpknogfijaaGreatDoor
open Go.Ab
set_option linter.unusedVariables false
set_option linter.unusedSimpArgs false
set_option maxRecDepth 20000
set_option maxHeartbeats 4000000
attribute [local irreducible] Qi wA Xk Xj Qz Qo QS QV
set_option linter.unusedSectionVars false
variable [HB]
def Ju (m:List (List Pol)):Nat:=(m.getD 0 []).length
def UA (m:List (List Pol)):Prop:=∀ r∈m,r.length=Ju m
instance (m:List (List Pol)):Decidable (UA m):=by unfold UA;infer_instance
def I35 (m:List (List Pol)) (ms:SV) (hb:Qa) (k:Nat) (E:Env) (h:Qa):Prop:=∃ i,i≤m.length∧k=m.length-i∧h=hb∧(∀ r∈m.take i,r.length=Ju m) ∧
  E.keep [0,5,6,7]=[(0,some (.sc ms)),(5,some (.sc ms)),(6,some (.sc (.int .i64 (m.length:Nat)))),(7,some (.sc (.int .i64 (i:Nat))))]
def R35 (m:List (List Pol)) (hb:Qa) (ex:Ex) (E:Env) (h:Qa):Prop:=h=hb∧((ex=.ex 0∧UA m∧∃ a b c d e,E=[(0,a),(5,b),(6,c),(7,d),(8,e)])∨(ex=.rt∧¬ UA m∧E=[(2,some (.sc (.bool false)))]))
theorem Qgj (m:List (List Pol)) (ms:SV) (hb:Qa) (hn:m.length≤1000000) (pm:PolMx hb ms m) (hl:∀ r∈m,r.length≤1000000) (k:Nat) (E:Env) (h:Qa) (hI:I35 m ms hb k E h) :
    wA FT HKt QhU (E.keep [0,5,6,7]) h (Qo (I35 m ms hb) k (R35 m hb)):=by
  obtain ⟨i,hi,rfl,rfl,hall,hE⟩:=hI
  rw [hE]
  by_cases hlt:i < m.length
  · obtain ⟨r,hr⟩:∃ r,m[i]?=some r:=⟨_,List.getElem?_eq_getElem hlt⟩
    obtain ⟨q,hq⟩:∃ q,m[0]?=some q:=⟨_,List.getElem?_eq_getElem (by omega)⟩
    obtain ⟨id,off,cap,rs,es,rd,pr⟩:=pm.at hr
    subst es
    obtain ⟨id2,off2,cap2,qs,es2,rd2,pq⟩:=pm.at hq
    cases es2
    have lr:=pr.len
    have lq:=pq.len
    have ec:Ju m=q.length:=by unfold Ju;rw [List.getD_eq_getElem?_getD,hq];rfl
    have z1:=hl r (List.mem_of_getElem? hr)
    have z2:=hl q (List.mem_of_getElem? hq)
    by_cases e:r.length=q.length
    · repeat' (first | refine Qh ?_ | refine Qb ?_ | refine Qt ?_ | refine QC ?_ | refine Qn ?_ | refine Qf ?_ | ((refine Qg ?_);first | refine Qk rfl ?_ | refine Qj rfl ?_) | ((refine Qe ?_);first | refine QQ rfl rfl rfl rfl ?_ | refine QU rfl rfl rfl rfl rfl ?_) | ((refine Qc ?_);first | (have z:=used;refine Xx rfl rd2 ?_) | refine QD (esz:=1) rfl rfl (by omega) ?_ | (refine Xx rfl rd ?_;have used:=True.intro) | refine QA rfl lr ?_ | refine QA rfl lq ?_ | refine XJ rfl rfl (by omega) ?_ | refine Qp rfl ?_ | refine QK rfl rfl (by omega) ?_ | refine Qx rfl rfl (by omega) ?_))
      refine Qu (j:=m.length-(i+1)) (by omega) ⟨i+1,by omega,rfl,rfl,fun x hx=>?_,rfl⟩
      rw [List.take_add_one,hr] at hx
      rcases List.mem_append.1 hx with hx | hx
      · exact hall x hx
      · simp at hx;subst hx;rw [ec];exact e
    · repeat' (first | refine Qh ?_ | refine Qb ?_ | refine QF ?_ | refine Qt ?_ | refine Xg ?_ | refine Qn ?_ | refine Qs ?_ | refine Qf ?_ | ((refine Qg ?_);refine Qk rfl ?_) | ((refine Qe ?_);first | refine Qr rfl ?_ | refine QU rfl rfl rfl rfl rfl ?_) | ((refine Qc ?_);first | (have z:=used;refine Xx rfl rd2 ?_) | refine QD (esz:=1) rfl rfl (by omega) ?_ | (refine Xx rfl rd ?_;have used:=True.intro) | refine QA rfl lr ?_ | refine QA rfl lq ?_ | refine XX rfl rfl (by omega) ?_ | refine Qp rfl ?_ | refine Qx rfl rfl (by omega) ?_))
      exact XN ⟨rfl,.inr ⟨rfl,fun hf=>e (by rw [← ec];exact hf r (List.mem_of_getElem? hr)),rfl⟩⟩
  · have:i=m.length:=by omega
    subst this
    rw [List.take_length] at hall
    repeat' (first | refine Qh ?_ | refine Qb ?_ | refine QP ?_ | refine QL ?_ | refine Qf ?_ | ((refine Qg ?_);refine Qj rfl ?_) | ((refine Qe ?_);refine QU rfl rfl rfl rfl rfl ?_) | ((refine Qc ?_);refine QH rfl rfl (by omega) ?_))
    exact QG ⟨rfl,.inl ⟨rfl,hall,_,_,_,_,_,rfl⟩⟩
theorem QjI (h0:Qa) (m:List (List Pol)) (ms:SV) (hn:m.length≤1000000) (pm:PolMx h0 ms m) (hl:∀ r∈m,r.length≤1000000):∃ r h',Cal FT HKt 35 [.sc ms] h0 r h'∧(r=.sc (.bool (decide (UA m)))∧h'=h0):=by
  refine Cal.of (F:=a35) rfl rfl rfl ?_
  have lm:=pm.len
  repeat' (first | refine Qh ?_ | refine Qb ?_ | refine Qt ?_ | refine Qf ?_ | ((refine Qe ?_);first | refine Qr rfl ?_ | refine QQ rfl rfl rfl rfl ?_) | ((refine Qc ?_);first | refine QA rfl lm ?_ | refine Qp rfl ?_))
  refine Q2 (I35 m ms h0) m.length (R35 m h0) ⟨0,Nat.zero_le _,rfl,rfl,by simp,rfl⟩ (Qgj m ms h0 hn pm hl) ?_
  rintro ex E' h1 ⟨rfl,⟨rfl,hf,_,_,_,_,_,rfl⟩ | ⟨rfl,hf,rfl⟩⟩
  · repeat' (first | refine Qh ?_ | refine Qb ?_ | refine QE ?_ | refine Qs ?_ | refine Qf ?_ | ((refine Qe ?_);refine Qr rfl ?_) | ((refine Qc ?_);refine Qp rfl ?_))
    exact ⟨.inr rfl,by rw [decide_eq_true hf];rfl,rfl⟩
  · repeat' (first | refine QF ?_ | refine Xg ?_)
    exact ⟨.inr rfl,by rw [decide_eq_false hf];rfl,rfl⟩
theorem QeR (h0:Qa) (m:List (List Pol)) (ms:SV) (hn:m.length≤1000000) (pm:PolMx h0 ms m):∃ r h',Cal FT HKt 37 [.sc ms] h0 r h'∧(r=.sc (.int .i64 (Ju m:Nat))∧h'=h0):=by
  refine Cal.of (F:=a37) rfl rfl rfl ?_
  have lm:=pm.len
  by_cases h:m.length=0
  · have e:Ju m=0:=by rw [List.eq_nil_of_length_eq_zero h];rfl
    rw [e]
    repeat' (first | refine Qh ?_ | refine Qb ?_ | refine QF ?_ | refine Qs ?_ | refine Qf ?_ | ((refine Qg ?_);refine Qk rfl ?_) | ((refine Qe ?_);first | refine Qr rfl ?_ | refine Qv rfl rfl ?_) | ((refine Qc ?_);first | refine QA rfl lm ?_ | refine Xw rfl rfl (by omega) ?_ | refine Qp rfl ?_))
    exact ⟨.inr rfl,rfl,rfl⟩
  · obtain ⟨q,hq⟩:∃ q,m[0]?=some q:=⟨_,List.getElem?_eq_getElem (by omega)⟩
    obtain ⟨id,off,cap,rs,es,rd,pr⟩:=pm.at hq
    subst es
    have lr:=pr.len
    have ec:Ju m=q.length:=by unfold Ju;rw [List.getD_eq_getElem?_getD,hq];rfl
    rw [ec]
    repeat' (first | refine Qh ?_ | refine Qb ?_ | refine Qn ?_ | refine Qs ?_ | refine Qf ?_ | ((refine Qg ?_);refine Qj rfl ?_) | ((refine Qe ?_);first | refine Qr rfl ?_ | refine Qv rfl rfl ?_) | ((refine Qc ?_);first | refine QA rfl lm ?_ | refine Xa rfl rfl (by omega) ?_ | refine QD (esz:=1) rfl rfl (by omega) ?_ | refine Xx rfl rd ?_ | refine QA rfl lr ?_ | refine Qp rfl ?_))
    exact ⟨.inr rfl,rfl,rfl⟩
theorem QjH (h0:Qa) (m:List (List Pol)) (ms:SV) (hn:m.length≤64) (hc:Ju m≤64) (pm:PolMx h0 ms m):∃ r h',Cal FT HKt 36 [.sc ms] h0 r h'∧(r=.sc (.bool false)∧h'=h0):=by
  refine Cal.of (F:=a36) rfl rfl rfl ?_
  have lm:=pm.len
  have k37:=QeR h0 m ms (by omega) pm
  repeat' (first | refine Qh ?_ | refine Qb ?_ | refine Qs ?_ | refine Qf ?_ | ((refine Qe ?_);refine Qr rfl ?_) | ((refine Qc ?_);first | refine QA rfl lm ?_ | refine Xq rfl rfl (by omega) ?_ | (refine Qm rfl k37 ?_;rintro v h1 ⟨rfl,rfl⟩) | refine QY rfl ?_ | refine Qp rfl ?_ | refine QT rfl rfl ?_))
  exact ⟨.inr rfl,rfl,rfl⟩
def I75 (r:List Pol) (rs:SV) (hb:Qa) (k:Nat) (E:Env) (h:Qa):Prop:=∃ i,i≤r.length∧k=r.length-i∧Ext hb h ∧
  E.keep [0,1,7,8]=[(0,some (.sc rs)),(1,some (.sc (.fn 39 []))),(7,some (.sc (.int .i64 (r.length:Nat)))),(8,some (.sc (.int .i64 (i:Nat))))]
def R75 (hb:Qa) (ex:Ex) (E:Env) (h:Qa):Prop:=ex=.ex 0∧Ext hb h∧∃ a b c d e,E=[(0,a),(1,b),(7,c),(8,d),(9,e)]
theorem Qgd (r:List Pol) (rs:SV) (hb:Qa) (hn:r.length≤1000000) (pr:PolRow hb rs r) (hl:∀ p∈r,p.big=false) (k:Nat) (E:Env) (h:Qa) (hI:I75 r rs hb k E h) :
    wA FT HKt QhL (E.keep [0,1,7,8]) h (Qo (I75 r rs hb) k (R75 hb)):=by
  obtain ⟨i,hi,rfl,x,hE⟩:=hI
  rw [hE]
  by_cases hlt:i < r.length
  · obtain ⟨p,hp⟩:∃ p,r[i]?=some p:=⟨_,List.getElem?_eq_getElem hlt⟩
    obtain ⟨id,off,cap,t,es,rd,dt⟩:=pr.at hp
    subst es
    have rd0:=QO x rd
    rw [hl p (List.mem_of_getElem? hp)] at rd0
    have k39:=Vq h false t
    repeat' (first | refine Qh ?_ | refine Qb ?_ | refine Qt ?_ | refine QC ?_ | refine Qn ?_ | refine Qf ?_ | ((refine Qg ?_);first | refine Qk rfl ?_ | refine Qj rfl ?_) | ((refine Qe ?_);first | refine QQ rfl rfl rfl rfl ?_ | refine QU rfl rfl rfl rfl rfl ?_ | refine QM rfl rfl rfl rfl rfl rfl ?_) | ((refine Qc ?_);first | refine QD (esz:=2) rfl rfl (by omega) ?_ | refine Yi rfl rd0 ?_ | (refine ZB rfl rfl k39 ?_;rintro v h1 ⟨e1,rfl⟩) | refine Qp rfl ?_ | refine QK rfl rfl (by omega) ?_ | refine Qx rfl rfl (by omega) ?_))
    exact Qu (j:=r.length-(i+1)) (by omega) ⟨i+1,by omega,rfl,x.trans e1,rfl⟩
  · have:i=r.length:=by omega
    subst this
    repeat' (first | refine Qh ?_ | refine Qb ?_ | refine QP ?_ | refine QL ?_ | refine Qf ?_ | ((refine Qg ?_);refine Qj rfl ?_) | ((refine Qe ?_);refine QU rfl rfl rfl rfl rfl ?_) | ((refine Qc ?_);refine QH rfl rfl (by omega) ?_))
    exact QG ⟨rfl,x,_,_,_,_,_,rfl⟩
theorem QjG (h0:Qa) (r:List Pol) (rs:SV) (hn:r.length≤1000000) (pr:PolRow h0 rs r) (hl:∀ p∈r,p.big=false):∃ v h',Cal FT HKt 38 [.sc rs,.sc (.fn 39 [])] h0 v h'∧(Ext h0 h'∧v=.sc (.bool false)):=by
  have k75:∃ v h',Cal FT HKt 75 [.sc rs,.sc (.fn 39 [])] h0 v h'∧(Ext h0 h'∧v=.sc (.int .i64 (-1))):=by
    refine Cal.of (F:=a75) rfl rfl rfl ?_
    have lr:=pr.len
    repeat' (first | refine Qh ?_ | refine Qb ?_ | refine Qt ?_ | refine Qf ?_ | ((refine Qe ?_);first | refine Qv rfl rfl ?_ | refine QQ rfl rfl rfl rfl ?_) | ((refine Qc ?_);first | refine QA rfl lr ?_ | refine Qp rfl ?_))
    refine Q2 (I75 r rs h0) r.length (R75 h0) ⟨0,Nat.zero_le _,rfl,Ext.refl _,rfl⟩ (Qgd r rs h0 hn pr hl) ?_
    rintro ex E' h1 ⟨rfl,x,_,_,_,_,_,rfl⟩
    repeat' (first | refine Qh ?_ | refine Qb ?_ | refine QE ?_ | refine Qs ?_ | refine Qf ?_ | ((refine Qe ?_);refine Qr rfl ?_) | ((refine Qc ?_);refine Qp rfl ?_))
    exact ⟨.inr rfl,x,rfl⟩
  refine Cal.of (F:=a38) rfl rfl rfl ?_
  repeat' (first | refine Qh ?_ | refine Qb ?_ | refine Qs ?_ | refine Qf ?_ | ((refine Qe ?_);first | refine Qr rfl ?_ | refine Qv rfl rfl ?_) | ((refine Qc ?_);first | (refine Qm rfl k75 ?_;rintro v h1 ⟨e1,rfl⟩) | refine Xv rfl rfl (by omega) ?_ | refine Qp rfl ?_))
  exact ⟨.inr rfl,e1,rfl⟩
end Go.Proofs.YtofknpknogfijaaGreatDoor


namespace Go.Proofs.YtofknpknogfijaaGreatDoor
open Go.Ab
set_option linter.unusedVariables false
set_option linter.unusedSimpArgs false
set_option maxRecDepth 20000
set_option maxHeartbeats 4000000
attribute [local irreducible] Qi wA Xk Xj Qz Qo QS QV
set_option linter.unusedSectionVars false
variable [HB]
theorem Ut {low:Int} {xs:List Int} (h:∀ x∈xs,x.natAbs≤cM) (hl:low≤eM) (he:∀ i,i < xs.length→(low+(i:Nat)).natAbs≤eM) :
    ∃ r,ofP low xs=⟨false,r⟩∧Can r∧(∀ t∈r,low≤t.1∧t.1 < low+xs.length∧t.2.natAbs≤cM∧t.1.natAbs≤eM)∧∀ e,cf r e=if low≤e∧e < low+xs.length then xs.getD (e-low).toNat 0 else 0:=by
  have key:∀ i,i≤xs.length→∃ r,ofN low xs i=some r:=by
    intro i
    induction i with
    | zero=>intro _;exact ⟨[],rfl⟩
    | succ i ih =>
      intro hi
      obtain ⟨r,hr⟩:=ih (by omega)
      have hm:xs.getD i 0∈xs:=by rw [List.getD_eq_getElem?_getD,List.getElem?_eq_getElem (by omega)];exact List.getElem_mem _
      have h1:=h _ hm
      have h2:=he i (by omega)
      rw [ofN,hr,Option.bind_some]
      split
      · exact ⟨_,rfl⟩
      · rw [if_pos ⟨h1,hl,h2⟩];exact ⟨_,rfl⟩
  obtain ⟨r,hr⟩:=key xs.length (Nat.le_refl _)
  obtain ⟨a,b,c⟩:=zN hr
  exact ⟨r,by unfold ofP;rw [hr],a,b,c⟩
structure SqM (b:Nat) (m:List (List Pol)):Prop where
  n:m.length≤64
  sq:∀ r∈m,r.length=m.length
  ok:∀ r∈m,∀ p∈r,Can p.ts∧p.big=false∧p.ts.length≤100000∧∀ t∈p.ts,t.1.natAbs≤400∧t.2.natAbs≤cM
  bb:b≤60∧b*m.length≤118
  w:∀ r∈m,XU (rT r) < 2 ^ b
theorem VC {low:Int}:∀ {l:List Tm},YA (shL low l)=YA l
  | []=>rfl
  | t::l=>by
    have:=VC (low:=low) (l:=l)
    unfold shL at this ⊢
    simp only [List.map_cons,YA,this]
theorem QfS {r:List Pol}:XU (esR r)=XU (rT r):=by
  rw [qz,qz]
  unfold esR rT
  rw [List.map_map,List.map_map]
  congr 1
  exact List.map_congr_left fun p _=>VC
def Qar (m:List (List Pol)):Int→Int:=dL (m.map rT) (List.range' 0 m.length)
theorem SqM.dok {b:Nat} {m:List (List Pol)} (k:SqM b m):DOk b m∧(ZG m m.length).natAbs≤25600:=by
  have hbd:∀ r∈m,bF r≤bS r∧(bF r).natAbs≤400∧(bS r).natAbs≤400:=fun r hr=>by
    have:=bFS (r:=r) (fun p hp=>(k.ok r hr p hp).1) (B:=400) fun p hp t ht=>((k.ok r hr p hp).2.2.2 t ht).1
    exact ⟨this.1,this.2.1,this.2.2.1⟩
  have mem:∀ j,j < m.length→m.getD j []∈m:=fun j hj=>by rw [List.getD_eq_getElem?_getD,List.getElem?_eq_getElem hj];exact List.getElem_mem _
  refine ⟨⟨by have:=k.n;omega,k.sq,fun r hr p hp=>?_,k.bb,fun r hr=>by rw [QfS];exact k.w r hr,?_⟩,?_⟩
  · obtain ⟨a,b,c,d⟩:=k.ok r hr p hp
    exact ⟨a,b,c,fun t ht=>⟨by have:=(d t ht).1;omega,(d t ht).2⟩⟩
  · have h1:(Jp m m.length).natAbs≤m.length*800:=Uh fun j hj=>by have:=hbd _ (mem j hj);omega
    have:=k.n
    omega
  · have h1:(ZG m m.length).natAbs≤m.length*400:=Uh fun j hj=>(hbd _ (mem j hj)).2.1
    have:=k.n
    omega
theorem zW:∀ {l:List Nat},0∈l→l.foldr (·*·) 1=0
  | x::l,h=>by
    rw [List.foldr_cons]
    rcases List.mem_cons.1 h with h | h
    · rw [← h,Nat.zero_mul]
    · rw [zW h,Nat.mul_zero]
theorem QiN {r:List Pol}:(rT r).length=r.length:=by unfold rT;rw [List.length_map]
theorem QgS {b:Nat} {m:List (List Pol)} (k:SqM b m) (e:Int):(Qar m e).natAbs≤((m.map rT).map XU).foldr (·*·) 1 :=
  QeL (n:=m.length) (List.Sublist.refl _) fun r hr=>by
    obtain ⟨q,hq,rfl⟩:=List.mem_map.1 hr
    rw [QiN];exact k.sq q hq
def DetR (m:List (List Pol)) (h:Qa) (v:AV):Prop :=
  (∃ s ts,v=.tup [.agg [.bool false,s],.sc (.int .i64 0)]∧IsD h s (tms ts)∧Can ts∧(∀ t∈ts,t.2.natAbs≤cM∧t.1.natAbs≤eM∧t.1.natAbs≤100000)∧∀ e,cf ts e=Qar m e) ∨
  ((∃ e,cM < (Qar m e).natAbs)∧v=.tup [.agg [.bool false,.nilS],.sc (.int .i64 9)])
def I11 (m:List (List Pol)) (ms:SV) (q2:Nat) (hb:Qa) (k:Nat) (E:Env) (h:Qa):Prop:=∃ i,i≤m.length∧k=m.length-i∧Ext hb h ∧
  E.keep [0,2,24,25,26]=[(0,some (.sc ms)),(2,some (.sc (.ptr q2 0))),(24,some (.sc ms)),(25,some (.sc (.int .i64 (m.length:Nat)))),(26,some (.sc (.int .i64 (i:Nat))))]
def R11 (ms:SV) (q2:Nat) (hb:Qa) (ex:Ex) (E:Env) (h:Qa):Prop:=ex=.ex 1∧Ext hb h∧∃ a b c d,E=[(0,some (.sc ms)),(2,some (.sc (.ptr q2 0))),(24,a),(25,b),(26,c),(27,d)]
theorem Qgm (m:List (List Pol)) (ms:SV) (q2:Nat) (hb:Qa) (hn:m.length≤1000000) (pm:PolMx hb ms m) (hl:∀ r∈m,r.length≤1000000∧∀ p∈r,p.big=false) (k:Nat) (E:Env) (h:Qa) (hI:I11 m ms q2 hb k E h) :
    wA FT HKt QhY (E.keep [0,2,24,25,26]) h (Qo (I11 m ms q2 hb) k (R11 ms q2 hb)):=by
  obtain ⟨i,hi,rfl,x,hE⟩:=hI
  rw [hE]
  by_cases hlt:i < m.length
  · obtain ⟨r,hr⟩:∃ r,m[i]?=some r:=⟨_,List.getElem?_eq_getElem hlt⟩
    obtain ⟨id,off,cap,rs,es,rd,pr⟩:=pm.at hr
    subst es
    have rd0:=QO x rd
    obtain ⟨z1,z2⟩:=hl r (List.mem_of_getElem? hr)
    have k38:=QjG h r rs z1 (pr.ext x) z2
    repeat' (first | refine Qh ?_ | refine Qb ?_ | refine Qt ?_ | refine QC ?_ | refine Qn ?_ | refine Qf ?_ | ((refine Qg ?_);first | refine Qk rfl ?_ | refine Qj rfl ?_) | ((refine Qe ?_);first | refine QU rfl rfl rfl rfl rfl ?_ | refine QM rfl rfl rfl rfl rfl rfl ?_) | ((refine Qc ?_);first | refine QD (esz:=1) rfl rfl (by omega) ?_ | refine Xx rfl rd0 ?_ | (refine Qm rfl k38 ?_;rintro v h1 ⟨e1,rfl⟩) | refine Qp rfl ?_ | refine QK rfl rfl (by omega) ?_ | refine Qx rfl rfl (by omega) ?_))
    exact Qu (j:=m.length-(i+1)) (by omega) ⟨i+1,by omega,rfl,x.trans e1,rfl⟩
  · have:i=m.length:=by omega
    subst this
    repeat' (first | refine Qh ?_ | refine Qb ?_ | refine QP ?_ | refine QL ?_ | refine Qf ?_ | ((refine Qg ?_);refine Qj rfl ?_) | ((refine Qe ?_);refine QM rfl rfl rfl rfl rfl rfl ?_) | ((refine Qc ?_);refine QH rfl rfl (by omega) ?_))
    exact QG ⟨rfl,x,_,_,_,_,rfl⟩
theorem QjN (b:Nat) (m:List (List Pol)) (ms:SV) (h0:Qa) (pm:PolMx h0 ms m) (k:SqM b m):∃ r h',Cal FT HKt 11 [.sc ms] h0 r h'∧(Ext h0 h'∧DetR m h' r):=by
  refine Cal.of (F:=a11) rfl rfl rfl ?_
  obtain ⟨kd,hlow⟩:=k.dok
  have hn:=k.n
  have lm:=pm.len
  have hcol:Ju m=m.length∨m.length=0:=by
    rcases Nat.eq_zero_or_pos m.length with h | h
    · exact .inr h
    · left
      unfold Ju
      refine k.sq _ ?_
      rw [List.getD_eq_getElem?_getD,List.getElem?_eq_getElem h];exact List.getElem_mem _
  have hc0:Ju m=m.length:=by
    rcases hcol with h | h
    · exact h
    · rw [List.eq_nil_of_length_eq_zero h];rfl
  have hf:UA m:=fun r hr=>by rw [hc0];exact k.sq r hr
  have hl:∀ r∈m,r.length≤1000000:=fun r hr=>by rw [k.sq r hr];omega
  have k35:=fun H (e:Ext h0 H)=>QjI H m ms (by omega) (pm.ext e) hl
  have k36:=fun H (e:Ext h0 H)=>QjH H m ms hn (by omega) (pm.ext e)
  have k37:=fun H (e:Ext h0 H)=>QeR H m ms (by omega) (pm.ext e)
  simp only [decide_eq_true hf] at k35
  rw [hc0] at k37
  have pm0:=pm
  obtain ⟨deg,hdeg⟩:∃ deg:Nat,Jp m m.length=(deg:Int):=⟨(Jp m m.length).toNat,(Int.toNat_of_nonneg (QgT fun r hr=>(kd.bd hr).1)).symm⟩
  have spans:∀ r∈m,0≤bS r-bF r∧∀ l∈esR r,∀ t∈l,0≤t.1∧t.1≤bS r-bF r:=fun r hr=>by
    have h1:=(kd.bd hr).1
    refine ⟨by omega,fun l hl t ht=>?_⟩
    have:=QeB (kd.ca hr) (fun p hp t ht=>((kd.ok r hr p hp).2.2.2 t ht).1) (fun p hp t ht=>((kd.ok r hr p hp).2.2.2 t ht).2) l hl t ht
    exact ⟨this.1,this.2.1⟩
  have sums:(m.map fun r=>bS r-bF r).sum=(deg:Int):=by rw [← hdeg,← Qbv (f:=fun r=>bS r-bF r)];rfl
  have lows:(m.map bF).sum=ZG m m.length:=(Qbv (f:=bF)).symm
  have hsh:∀ e,dL (m.map esR) (List.range' 0 m.length) e=Qar m (e+ZG m m.length):=fun e=>by rw [Qas,lows];rfl
  have hD:∀ x:Int,D ((m.map esR).map (evR x)) (List.range' 0 m.length)=sm (deg+1) fun j=>dL (m.map esR) (List.range' 0 m.length) (j:Int)*x ^ j:=fun x=>QhC esR (fun r=>bS r-bF r) x spans (by rw [sums];exact Int.le_refl _)
  have hdb:∀ j:Nat,(dL (m.map esR) (List.range' 0 m.length) (j:Int)).natAbs≤((m.map esR).map XU).foldr (·*·) 1:=fun j=>QeL (n:=m.length) (List.Sublist.refl _) fun r hr=>by
    obtain ⟨q,hq,rfl⟩:=List.mem_map.1 hr
    unfold esR;rw [List.length_map];exact k.sq q hq
  have k40:=fun H (e:Ext h0 H)=>QjF b deg m ms (fun j=>dL (m.map esR) (List.range' 0 m.length) (j:Int)) H (pm.ext e) kd hdeg hD hdb
  have hsupp:∀ e,e < ZG m m.length∨ZG m m.length+deg < e→Qar m e=0:=fun e he=>by
    have:=hsh (e-ZG m m.length)
    rw [Int.sub_add_cancel] at this
    rw [← this]
    exact Vn esR (fun r=>bS r-bF r) (fun r hr=>(spans r hr).2) (by rw [sums];omega)
  have hd2:deg≤65536:=by have:=kd.deg;omega
  repeat' (first | refine Qh ?_ | refine Qb ?_ | refine Qt ?_ | refine QC ?_ | refine Qn ?_ | refine Qf ?_ | ((refine Qg ?_);refine Qj rfl ?_) | ((refine Qe ?_);first | refine Qv rfl rfl ?_ | refine Qy rfl rfl rfl ?_ | refine QU rfl rfl rfl rfl rfl ?_) | ((refine Qc ?_);first | (refine Xm ?_;intro h1 e1 c2) | (refine Qm rfl (k35 _ e1) ?_;rintro v h1 ⟨rfl,rfl⟩) | (refine Qm rfl (k36 _ e1) ?_;rintro v h1 ⟨rfl,rfl⟩) | (refine Qm rfl (k37 _ e1) ?_;rintro v h1 ⟨rfl,rfl⟩) | refine QA rfl lm ?_ | refine XJ rfl rfl (by omega) ?_ | refine Qp rfl ?_ | refine XQ rfl ?_))
  refine Q2 (I11 m ms h0.length h1) m.length (R11 ms h0.length h1) ⟨0,Nat.zero_le _,rfl,Ext.refl _,rfl⟩ (Qgm m ms h0.length h1 (by omega) (pm.ext e1) (fun r hr=>⟨hl r hr,fun p hp=>(k.ok r hr p hp).2.1⟩)) ?_
  rintro ex E' h2 ⟨rfl,x2,_,_,_,_,rfl⟩
  have c22:=c2.ext x2
  obtain ⟨v4,h4,cal4,x4,res⟩:=k40 h2 (e1.trans x2)
  rcases res with ⟨⟨j,hj,hz,hne⟩,rfl⟩ | ⟨nz,⟨small,s,rfl,d4⟩ | ⟨⟨j,hj,hbig⟩,rfl⟩⟩
  · have c24:=c22.ext x4
    have k39:=fun H=>Vq H false .nilS
    have x24:=x2.trans x4
    repeat' (first | refine Qh ?_ | refine Qb ?_ | refine QE ?_ | refine Qn ?_ | refine Qs ?_ | refine Qf ?_ | ((refine Qg ?_);refine Qj rfl ?_) | ((refine Qe ?_);first | refine Qv rfl rfl ?_ | refine Qy rfl rfl rfl ?_) | ((refine Qc ?_);first | (refine Qm (R:=fun v h=>v=_∧h=h4) rfl ⟨_,_,cal4,rfl,rfl⟩ ?_;rintro v h ⟨rfl,rfl⟩) | (refine J5 rfl ?_;intro h5 e5 c6;replace x24:=x24.trans e5) | refine QN rfl c6 ?_ | (refine Qm rfl (k39 _) ?_;rintro v h6 ⟨e6,rfl⟩;replace c6:=c6.ext e6;replace x24:=x24.trans e6) | (refine Xu rfl rfl (c2.ext x24) ?_;intro h7 w7) | refine QY rfl ?_ | refine Qp rfl ?_ | refine QT rfl rfl ?_ | refine XQ rfl ?_ | refine XF rfl rfl ?_))
    refine ⟨.inr rfl,Zf rfl w7.cel.read rfl ⟨w7.ext (e1.trans x24) (Nat.le_refl _),.inl ⟨.nilS,[],rfl,IsD.nil _,Can.nil,by simp,fun e=>?_⟩⟩⟩
    have hb0:=QgS k e
    have hm:m.getD j []∈m:=by rw [List.getD_eq_getElem?_getD,List.getElem?_eq_getElem hj];exact List.getElem_mem _
    have hw0:XU (rT (m.getD j []))=0:=by
      have:=Vt (kd.ca hm)
      rw [hz] at this
      rw [qz]
      unfold rT
      rw [List.map_map]
      have e:(m.getD j []).map (YA∘Pol.ts)=(m.getD j []).map fun _=>0:=List.map_congr_left fun p hp=>by simp [this p hp,YA]
      rw [e]
      generalize m.getD j []=l
      induction l with
      | nil=>rfl
      | cons a l ih=>simp only [List.map_cons,List.sum_cons,ih]
    rw [zW (List.mem_map.2 ⟨rT (m.getD j []),List.mem_map.2 ⟨_,hm,rfl⟩,hw0⟩)] at hb0
    show (0:Int)=_
    omega
  · have c24:=c22.ext x4
    obtain ⟨ts,ets,can,hts,hcf⟩:=Ut (low:=ZG m m.length) (xs:=(List.range (deg+1)).map fun j:Nat=>dL (m.map esR) (List.range' 0 m.length) (j:Int)) (fun x hx=>by
        obtain ⟨j,hj,rfl⟩:=List.mem_map.1 hx
        rw [List.mem_range] at hj
        exact small j (by omega)) (by simp only [eM];omega) (fun i hi=>by simp only [eM];simp at hi;omega)
    rw [ets] at d4
    have k39:=fun H=>Vq H false s
    have x24:=x2.trans x4
    have d5:=d4
    rw [ets] at cal4
    repeat' (first | refine Qh ?_ | refine Qb ?_ | refine QE ?_ | refine Qn ?_ | refine Qs ?_ | refine Qf ?_ | ((refine Qg ?_);refine Qj rfl ?_) | ((refine Qe ?_);first | refine Qv rfl rfl ?_ | refine Qy rfl rfl rfl ?_) | ((refine Qc ?_);first | (refine Qm (R:=fun v h=>v=_∧h=h4) rfl ⟨_,_,cal4,rfl,rfl⟩ ?_;rintro v h ⟨rfl,rfl⟩) | (refine J5 rfl ?_;intro h5 e5 c6;replace x24:=x24.trans e5;replace d5:=d5.ext e5) | refine QN rfl c6 ?_ | (refine Qm rfl (k39 _) ?_;rintro v h6 ⟨e6,rfl⟩;replace c6:=c6.ext e6;replace x24:=x24.trans e6;replace d5:=d5.ext e6) | (refine Xu rfl rfl (c2.ext x24) ?_;intro h7 w7) | refine QY rfl ?_ | refine Qp rfl ?_ | refine QT rfl rfl ?_ | refine XQ rfl ?_ | refine XF rfl rfl ?_))
    refine ⟨.inr rfl,Zf rfl w7.cel.read rfl ⟨w7.ext (e1.trans x24) (Nat.le_refl _),.inl ⟨s,ts,rfl,d5.wrC w7,can,fun t ht=>⟨(hts t ht).2.2.1,(hts t ht).2.2.2,?_⟩,fun e=>?_⟩⟩⟩
    · have:=hts t ht
      simp at this;omega
    · rw [hcf e]
      simp only [List.length_map,List.length_range]
      by_cases he:ZG m m.length≤e∧e < ZG m m.length+(deg+1:Nat)
      · rw [if_pos he,List.getD_eq_getElem?_getD,List.getElem?_map,List.getElem?_range (by omega)]
        show dL _ _ (((e-ZG m m.length).toNat:Nat):Int)=_
        rw [Int.toNat_of_nonneg (by omega),hsh,Int.sub_add_cancel]
      · rw [if_neg he,hsupp e (by omega)]
  · have c24:=c22.ext x4
    have k39:=fun H=>Vq H false .nilS
    have x24:=x2.trans x4
    repeat' (first | refine Qh ?_ | refine Qb ?_ | refine QF ?_ | refine QE ?_ | refine Qs ?_ | refine Qf ?_ | ((refine Qg ?_);refine Qk rfl ?_) | ((refine Qe ?_);first | refine Qv rfl rfl ?_ | refine Qy rfl rfl rfl ?_) | ((refine Qc ?_);first | (refine Qm (R:=fun v h=>v=_∧h=h4) rfl ⟨_,_,cal4,rfl,rfl⟩ ?_;rintro v h ⟨rfl,rfl⟩) | refine Y0 rfl rfl ?_ | (refine J5 rfl ?_;intro h5 e5 c6;replace x24:=x24.trans e5) | (refine Xu rfl rfl (c2.ext x24) ?_;intro h7 w7) | refine Xn rfl ?_ | refine Qp rfl ?_ | refine Q1 rfl rfl ?_ | refine XW rfl ?_ | refine XF rfl rfl ?_))
    exact ⟨.inr rfl,Zf rfl w7.cel.read rfl ⟨w7.ext (e1.trans x24) (Nat.le_refl _),.inr ⟨⟨_,by rw [← hsh];exact hbig⟩,rfl⟩⟩⟩
end Go.Proofs.YtofknpknogfijaaGreatDoor

