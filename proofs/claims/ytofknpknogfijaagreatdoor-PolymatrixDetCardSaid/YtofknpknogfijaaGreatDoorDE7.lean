/- The determinant: the checks of its form. -/
import Derived.Test.YtofknpknogfijaaGreatDoorPD2
import Derived.Test.YtofknpknogfijaaGreatDoorC3
import Derived.Test.YtofknpknogfijaaGreatDoorAb50
namespace Go.Proofs.YtofknpknogfijaaGreatDoor
open Go.Ab
set_option linter.unusedVariables false
set_option linter.unusedSimpArgs false
set_option maxRecDepth 20000
set_option maxHeartbeats 4000000
attribute [local irreducible] Qj wA Xm Xk QI Qo QW QV
set_option linter.unusedSectionVars false
variable [HB]
def Y2 (m:List (List Pol)):Nat:=(m.getD 0 []).length
def yg (m:List (List Pol)):Prop:=∀ r∈m,r.length=Y2 m
instance (m:List (List Pol)):Decidable (yg m):=by unfold yg;infer_instance
def I35 (m:List (List Pol)) (ms:SV) (hb:Qa) (k:Nat) (E:Env) (h:Qa):Prop:=∃ i,i≤m.length∧k=m.length-i∧h=hb∧(∀ r∈m.take i,r.length=Y2 m) ∧
  E.keep [0,5,6,7]=[(0,some (.sc ms)),(5,some (.sc ms)),(6,some (.sc (.int .i64 (m.length:Nat)))),(7,some (.sc (.int .i64 (i:Nat))))]
def R35 (m:List (List Pol)) (hb:Qa) (ex:Ex) (E:Env) (h:Qa):Prop:=h=hb∧((ex=.ex 0∧yg m∧∃ a b c d e,E=[(0,a),(5,b),(6,c),(7,d),(8,e)])∨(ex=.rt∧¬ yg m∧E=[(2,some (.sc (.bool false)))]))
theorem Qhi (m:List (List Pol)) (ms:SV) (hb:Qa) (hn:m.length≤1000000) (pm:PolMx hb ms m) (hl:∀ r∈m,r.length≤1000000) (k:Nat) (E:Env) (h:Qa) (hI:I35 m ms hb k E h) :
    wA FT HKt Qji (E.keep [0,5,6,7]) h (Qo (I35 m ms hb) k (R35 m hb)):=by
  obtain ⟨i,hi,rfl,rfl,hall,hE⟩:=hI
  rw [hE]
  by_cases hlt:i < m.length
  · obtain ⟨r,hr⟩:∃ r,m[i]?=some r:=⟨_,List.getElem?_eq_getElem hlt⟩
    obtain ⟨q,hq⟩:∃ q,m[0]?=some q:=⟨_,List.getElem?_eq_getElem (by omega)⟩
    obtain ⟨id,off,cap,rs,es,rd,pr⟩:=pm.at hr
    subst es
    obtain ⟨id2,off2,cap2,qs,es2,rd2,pq⟩:=pm.at hq
    cases es2
    have lr:=pr.len
    have lq:=pq.len
    have ec:Y2 m=q.length:=by unfold Y2;rw [List.getD_eq_getElem?_getD,hq];rfl
    have z1:=hl r (List.mem_of_getElem? hr)
    have z2:=hl q (List.mem_of_getElem? hq)
    by_cases e:r.length=q.length
    · repeat' (first | refine Qg ?_ | refine Qb ?_ | refine Qt ?_ | refine QG ?_ | refine Qp ?_ | refine Qf ?_ | ((refine Qh ?_);first | refine Qk rfl ?_ | refine Qi rfl ?_) | ((refine Qe ?_);first | refine QS rfl rfl rfl rfl ?_ | refine QO rfl rfl rfl rfl rfl ?_) | ((refine Qc ?_);first | (have z:=used;refine Q2 rfl rd2 ?_) | refine Qx (esz:=1) rfl rfl (by omega) ?_ | (refine Q2 rfl rd ?_;have used:=True.intro) | refine Qu rfl lr ?_ | refine Qu rfl lq ?_ | refine X3 rfl rfl (by omega) ?_ | refine Qm rfl ?_ | refine QM rfl rfl (by omega) ?_ | refine Qw rfl rfl (by omega) ?_))
      refine Qs (j:=m.length-(i+1)) (by omega) ⟨i+1,by omega,rfl,rfl,fun x hx=>?_,rfl⟩
      rw [List.take_add_one,hr] at hx
      rcases List.mem_append.1 hx with hx | hx
      · exact hall x hx
      · simp at hx;subst hx;rw [ec];exact e
    · repeat' (first | refine Qg ?_ | refine Qb ?_ | refine QL ?_ | refine Qt ?_ | refine Q9 ?_ | refine Qp ?_ | refine Qv ?_ | refine Qf ?_ | ((refine Qh ?_);refine Qk rfl ?_) | ((refine Qe ?_);first | refine Qq rfl ?_ | refine QO rfl rfl rfl rfl rfl ?_) | ((refine Qc ?_);first | (have z:=used;refine Q2 rfl rd2 ?_) | refine Qx (esz:=1) rfl rfl (by omega) ?_ | (refine Q2 rfl rd ?_;have used:=True.intro) | refine Qu rfl lr ?_ | refine Qu rfl lq ?_ | refine Yc rfl rfl (by omega) ?_ | refine Qm rfl ?_ | refine Qw rfl rfl (by omega) ?_))
      exact Xs ⟨rfl,.inr ⟨rfl,fun hf=>e (by rw [← ec];exact hf r (List.mem_of_getElem? hr)),rfl⟩⟩
  · have:i=m.length:=by omega
    subst this
    rw [List.take_length] at hall
    repeat' (first | refine Qg ?_ | refine Qb ?_ | refine QK ?_ | refine QH ?_ | refine Qf ?_ | ((refine Qh ?_);refine Qi rfl ?_) | ((refine Qe ?_);refine QO rfl rfl rfl rfl rfl ?_) | ((refine Qc ?_);refine QE rfl rfl (by omega) ?_))
    exact Qz ⟨rfl,.inl ⟨rfl,hall,_,_,_,_,_,rfl⟩⟩
theorem QfJ (h0:Qa) (m:List (List Pol)) (ms:SV) (hn:m.length≤1000000) (pm:PolMx h0 ms m) (hl:∀ r∈m,r.length≤1000000):∃ r h',Cal FT HKt 35 [.sc ms] h0 r h'∧(r=.sc (.bool (decide (yg m)))∧h'=h0):=by
  refine Cal.of (F:=a35) rfl rfl rfl ?_
  have lm:=pm.len
  repeat' (first | refine Qg ?_ | refine Qb ?_ | refine Qt ?_ | refine Qf ?_ | ((refine Qe ?_);first | refine Qq rfl ?_ | refine QS rfl rfl rfl rfl ?_) | ((refine Qc ?_);first | refine Qu rfl lm ?_ | refine Qm rfl ?_))
  refine QP (I35 m ms h0) m.length (R35 m h0) ⟨0,Nat.zero_le _,rfl,rfl,by simp,rfl⟩ (Qhi m ms h0 hn pm hl) ?_
  rintro ex E' h1 ⟨rfl,⟨rfl,hf,_,_,_,_,_,rfl⟩ | ⟨rfl,hf,rfl⟩⟩
  · repeat' (first | refine Qg ?_ | refine Qb ?_ | refine QC ?_ | refine Qv ?_ | refine Qf ?_ | ((refine Qe ?_);refine Qq rfl ?_) | ((refine Qc ?_);refine Qm rfl ?_))
    exact ⟨.inr rfl,by rw [decide_eq_true hf];rfl,rfl⟩
  · repeat' (first | refine QL ?_ | refine Q9 ?_)
    exact ⟨.inr rfl,by rw [decide_eq_false hf];rfl,rfl⟩
theorem QbM (h0:Qa) (m:List (List Pol)) (ms:SV) (hn:m.length≤1000000) (pm:PolMx h0 ms m):∃ r h',Cal FT HKt 37 [.sc ms] h0 r h'∧(r=.sc (.int .i64 (Y2 m:Nat))∧h'=h0):=by
  refine Cal.of (F:=a37) rfl rfl rfl ?_
  have lm:=pm.len
  by_cases h:m.length=0
  · have e:Y2 m=0:=by rw [List.eq_nil_of_length_eq_zero h];rfl
    rw [e]
    repeat' (first | refine Qg ?_ | refine Qb ?_ | refine QL ?_ | refine Qv ?_ | refine Qf ?_ | ((refine Qh ?_);refine Qk rfl ?_) | ((refine Qe ?_);first | refine Qq rfl ?_ | refine Qy rfl rfl ?_) | ((refine Qc ?_);first | refine Qu rfl lm ?_ | refine Xt rfl rfl (by omega) ?_ | refine Qm rfl ?_))
    exact ⟨.inr rfl,rfl,rfl⟩
  · obtain ⟨q,hq⟩:∃ q,m[0]?=some q:=⟨_,List.getElem?_eq_getElem (by omega)⟩
    obtain ⟨id,off,cap,rs,es,rd,pr⟩:=pm.at hq
    subst es
    have lr:=pr.len
    have ec:Y2 m=q.length:=by unfold Y2;rw [List.getD_eq_getElem?_getD,hq];rfl
    rw [ec]
    repeat' (first | refine Qg ?_ | refine Qb ?_ | refine Qp ?_ | refine Qv ?_ | refine Qf ?_ | ((refine Qh ?_);refine Qi rfl ?_) | ((refine Qe ?_);first | refine Qq rfl ?_ | refine Qy rfl rfl ?_) | ((refine Qc ?_);first | refine Qu rfl lm ?_ | refine Xh rfl rfl (by omega) ?_ | refine Qx (esz:=1) rfl rfl (by omega) ?_ | refine Q2 rfl rd ?_ | refine Qu rfl lr ?_ | refine Qm rfl ?_))
    exact ⟨.inr rfl,rfl,rfl⟩
theorem QfI (h0:Qa) (m:List (List Pol)) (ms:SV) (hn:m.length≤64) (hc:Y2 m≤64) (pm:PolMx h0 ms m):∃ r h',Cal FT HKt 36 [.sc ms] h0 r h'∧(r=.sc (.bool false)∧h'=h0):=by
  refine Cal.of (F:=a36) rfl rfl rfl ?_
  have lm:=pm.len
  have k37:=QbM h0 m ms (by omega) pm
  repeat' (first | refine Qg ?_ | refine Qb ?_ | refine Qv ?_ | refine Qf ?_ | ((refine Qe ?_);refine Qq rfl ?_) | ((refine Qc ?_);first | refine Qu rfl lm ?_ | refine XA rfl rfl (by omega) ?_ | (refine Qn rfl k37 ?_;rintro v h1 ⟨rfl,rfl⟩) | refine QX rfl ?_ | refine Qm rfl ?_ | refine QU rfl rfl ?_))
  exact ⟨.inr rfl,rfl,rfl⟩
def I75 (r:List Pol) (rs:SV) (hb:Qa) (k:Nat) (E:Env) (h:Qa):Prop:=∃ i,i≤r.length∧k=r.length-i∧Ext hb h ∧
  E.keep [0,1,7,8]=[(0,some (.sc rs)),(1,some (.sc (.fn 39 []))),(7,some (.sc (.int .i64 (r.length:Nat)))),(8,some (.sc (.int .i64 (i:Nat))))]
def R75 (hb:Qa) (ex:Ex) (E:Env) (h:Qa):Prop:=ex=.ex 0∧Ext hb h∧∃ a b c d e,E=[(0,a),(1,b),(7,c),(8,d),(9,e)]
theorem Qhe (r:List Pol) (rs:SV) (hb:Qa) (hn:r.length≤1000000) (pr:PolRow hb rs r) (hl:∀ p∈r,p.big=false) (k:Nat) (E:Env) (h:Qa) (hI:I75 r rs hb k E h) :
    wA FT HKt Qi5 (E.keep [0,1,7,8]) h (Qo (I75 r rs hb) k (R75 hb)):=by
  obtain ⟨i,hi,rfl,x,hE⟩:=hI
  rw [hE]
  by_cases hlt:i < r.length
  · obtain ⟨p,hp⟩:∃ p,r[i]?=some p:=⟨_,List.getElem?_eq_getElem hlt⟩
    obtain ⟨id,off,cap,t,es,rd,dt⟩:=pr.at hp
    subst es
    have rd0:=QA x rd
    rw [hl p (List.mem_of_getElem? hp)] at rd0
    have k39:=VX h false t
    repeat' (first | refine Qg ?_ | refine Qb ?_ | refine Qt ?_ | refine QG ?_ | refine Qp ?_ | refine Qf ?_ | ((refine Qh ?_);first | refine Qk rfl ?_ | refine Qi rfl ?_) | ((refine Qe ?_);first | refine QS rfl rfl rfl rfl ?_ | refine QO rfl rfl rfl rfl rfl ?_ | refine QD rfl rfl rfl rfl rfl rfl ?_) | ((refine Qc ?_);first | refine Qx (esz:=2) rfl rfl (by omega) ?_ | refine Yo rfl rd0 ?_ | (refine ZV rfl rfl k39 ?_;rintro v h1 ⟨e1,rfl⟩) | refine Qm rfl ?_ | refine QM rfl rfl (by omega) ?_ | refine Qw rfl rfl (by omega) ?_))
    exact Qs (j:=r.length-(i+1)) (by omega) ⟨i+1,by omega,rfl,x.trans e1,rfl⟩
  · have:i=r.length:=by omega
    subst this
    repeat' (first | refine Qg ?_ | refine Qb ?_ | refine QK ?_ | refine QH ?_ | refine Qf ?_ | ((refine Qh ?_);refine Qi rfl ?_) | ((refine Qe ?_);refine QO rfl rfl rfl rfl rfl ?_) | ((refine Qc ?_);refine QE rfl rfl (by omega) ?_))
    exact Qz ⟨rfl,x,_,_,_,_,_,rfl⟩
theorem Qlj (h0:Qa) (r:List Pol) (rs:SV) (hn:r.length≤1000000) (pr:PolRow h0 rs r) (hl:∀ p∈r,p.big=false):∃ v h',Cal FT HKt 38 [.sc rs,.sc (.fn 39 [])] h0 v h'∧(Ext h0 h'∧v=.sc (.bool false)):=by
  have k75:∃ v h',Cal FT HKt 75 [.sc rs,.sc (.fn 39 [])] h0 v h'∧(Ext h0 h'∧v=.sc (.int .i64 (-1))):=by
    refine Cal.of (F:=a75) rfl rfl rfl ?_
    have lr:=pr.len
    repeat' (first | refine Qg ?_ | refine Qb ?_ | refine Qt ?_ | refine Qf ?_ | ((refine Qe ?_);first | refine Qy rfl rfl ?_ | refine QS rfl rfl rfl rfl ?_) | ((refine Qc ?_);first | refine Qu rfl lr ?_ | refine Qm rfl ?_))
    refine QP (I75 r rs h0) r.length (R75 h0) ⟨0,Nat.zero_le _,rfl,Ext.refl _,rfl⟩ (Qhe r rs h0 hn pr hl) ?_
    rintro ex E' h1 ⟨rfl,x,_,_,_,_,_,rfl⟩
    repeat' (first | refine Qg ?_ | refine Qb ?_ | refine QC ?_ | refine Qv ?_ | refine Qf ?_ | ((refine Qe ?_);refine Qq rfl ?_) | ((refine Qc ?_);refine Qm rfl ?_))
    exact ⟨.inr rfl,x,rfl⟩
  refine Cal.of (F:=a38) rfl rfl rfl ?_
  repeat' (first | refine Qg ?_ | refine Qb ?_ | refine Qv ?_ | refine Qf ?_ | ((refine Qe ?_);first | refine Qq rfl ?_ | refine Qy rfl rfl ?_) | ((refine Qc ?_);first | (refine Qn rfl k75 ?_;rintro v h1 ⟨e1,rfl⟩) | refine XH rfl rfl (by omega) ?_ | refine Qm rfl ?_))
  exact ⟨.inr rfl,e1,rfl⟩
end Go.Proofs.YtofknpknogfijaaGreatDoor


namespace Go.Proofs.YtofknpknogfijaaGreatDoor
open Go.Ab
set_option linter.unusedVariables false
set_option linter.unusedSimpArgs false
set_option maxRecDepth 20000
set_option maxHeartbeats 4000000
attribute [local irreducible] Qj wA Xm Xk QI Qo QW QV
set_option linter.unusedSectionVars false
variable [HB]
theorem UU {low:Int} {xs:List Int} (h:∀ x∈xs,x.natAbs≤cM) (hl:low≤eM) (he:∀ i,i < xs.length→(low+(i:Nat)).natAbs≤eM) :
    ∃ r,ofP low xs=⟨false,r⟩∧Can r∧(∀ t∈r,low≤t.1∧t.1 < low+xs.length∧t.2.natAbs≤cM∧t.1.natAbs≤eM)∧∀ e,cf r e=if low≤e∧e < low+xs.length then xs.getD (e-low).toNat 0 else 0:=by
  have key:∀ i,i≤xs.length→∃ r,ofN low xs i=some r:=by
    intro i
    induction i with
    | zero=>intro _;exact ⟨[],rfl⟩
    | succ i ih =>
      intro hi
      obtain ⟨r,hr⟩:=ih (by omega)
      have hm:xs.getD i 0∈xs:=by rw [List.getD_eq_getElem?_getD,List.getElem?_eq_getElem (by omega)];exact List.getElem_mem _
      have h1:=h _ hm
      have h2:=he i (by omega)
      rw [ofN,hr,Option.bind_some]
      split
      · exact ⟨_,rfl⟩
      · rw [if_pos ⟨h1,hl,h2⟩];exact ⟨_,rfl⟩
  obtain ⟨r,hr⟩:=key xs.length (Nat.le_refl _)
  obtain ⟨a,b,c⟩:=Vx hr
  exact ⟨r,by unfold ofP;rw [hr],a,b,c⟩
structure SqM (b:Nat) (m:List (List Pol)):Prop where
  n:m.length≤64
  sq:∀ r∈m,r.length=m.length
  ok:∀ r∈m,∀ p∈r,Can p.ts∧p.big=false∧p.ts.length≤100000∧∀ t∈p.ts,t.1.natAbs≤400∧t.2.natAbs≤cM
  bb:b≤60∧b*m.length≤118
  w:∀ r∈m,XT (rT r) < 2 ^ b
theorem Qaa {low:Int}:∀ {l:List Tm},Yr (shL low l)=Yr l
  | []=>rfl
  | t::l=>by
    have:=Qaa (low:=low) (l:=l)
    unfold shL at this ⊢
    simp only [List.map_cons,Yr,this]
theorem QgQ {r:List Pol}:XT (esR r)=XT (rT r):=by
  rw [qy,qy]
  unfold esR rT
  rw [List.map_map,List.map_map]
  congr 1
  exact List.map_congr_left fun p _=>Qaa
def Uo (m:List (List Pol)):Int→Int:=dL (m.map rT) (List.range' 0 m.length)
theorem SqM.dok {b:Nat} {m:List (List Pol)} (k:SqM b m):DOk b m∧(ZB m m.length).natAbs≤25600:=by
  have hbd:∀ r∈m,bF r≤bS r∧(bF r).natAbs≤400∧(bS r).natAbs≤400:=fun r hr=>by
    have:=bFS (r:=r) (fun p hp=>(k.ok r hr p hp).1) (B:=400) fun p hp t ht=>((k.ok r hr p hp).2.2.2 t ht).1
    exact ⟨this.1,this.2.1,this.2.2.1⟩
  have mem:∀ j,j < m.length→m.getD j []∈m:=fun j hj=>by rw [List.getD_eq_getElem?_getD,List.getElem?_eq_getElem hj];exact List.getElem_mem _
  refine ⟨⟨by have:=k.n;omega,k.sq,fun r hr p hp=>?_,k.bb,fun r hr=>by rw [QgQ];exact k.w r hr,?_⟩,?_⟩
  · obtain ⟨a,b,c,d⟩:=k.ok r hr p hp
    exact ⟨a,b,c,fun t ht=>⟨by have:=(d t ht).1;omega,(d t ht).2⟩⟩
  · have h1:(Jh m m.length).natAbs≤m.length*800:=UI fun j hj=>by have:=hbd _ (mem j hj);omega
    have:=k.n
    omega
  · have h1:(ZB m m.length).natAbs≤m.length*400:=UI fun j hj=>(hbd _ (mem j hj)).2.1
    have:=k.n
    omega
theorem Ul:∀ {l:List Nat},0∈l→l.foldr (·*·) 1=0
  | x::l,h=>by
    rw [List.foldr_cons]
    rcases List.mem_cons.1 h with h | h
    · rw [← h,Nat.zero_mul]
    · rw [Ul h,Nat.mul_zero]
theorem Qkj {r:List Pol}:(rT r).length=r.length:=by unfold rT;rw [List.length_map]
theorem Qh2 {b:Nat} {m:List (List Pol)} (k:SqM b m) (e:Int):(Uo m e).natAbs≤((m.map rT).map XT).foldr (·*·) 1 :=
  QcK (n:=m.length) (List.Sublist.refl _) fun r hr=>by
    obtain ⟨q,hq,rfl⟩:=List.mem_map.1 hr
    rw [Qkj];exact k.sq q hq
def DetR (m:List (List Pol)) (h:Qa) (v:AV):Prop :=
  (∃ s ts,v=.tup [.agg [.bool false,s],.sc (.int .i64 0)]∧IsD h s (tms ts)∧Can ts∧(∀ t∈ts,t.2.natAbs≤cM∧t.1.natAbs≤eM∧t.1.natAbs≤100000)∧∀ e,cf ts e=Uo m e) ∨
  ((∃ e,cM < (Uo m e).natAbs)∧v=.tup [.agg [.bool false,.nilS],.sc (.int .i64 9)])
def I11 (m:List (List Pol)) (ms:SV) (q2:Nat) (hb:Qa) (k:Nat) (E:Env) (h:Qa):Prop:=∃ i,i≤m.length∧k=m.length-i∧Ext hb h ∧
  E.keep [0,2,24,25,26]=[(0,some (.sc ms)),(2,some (.sc (.ptr q2 0))),(24,some (.sc ms)),(25,some (.sc (.int .i64 (m.length:Nat)))),(26,some (.sc (.int .i64 (i:Nat))))]
def R11 (ms:SV) (q2:Nat) (hb:Qa) (ex:Ex) (E:Env) (h:Qa):Prop:=ex=.ex 1∧Ext hb h∧∃ a b c d,E=[(0,some (.sc ms)),(2,some (.sc (.ptr q2 0))),(24,a),(25,b),(26,c),(27,d)]
theorem Qhr (m:List (List Pol)) (ms:SV) (q2:Nat) (hb:Qa) (hn:m.length≤1000000) (pm:PolMx hb ms m) (hl:∀ r∈m,r.length≤1000000∧∀ p∈r,p.big=false) (k:Nat) (E:Env) (h:Qa) (hI:I11 m ms q2 hb k E h) :
    wA FT HKt Qju (E.keep [0,2,24,25,26]) h (Qo (I11 m ms q2 hb) k (R11 ms q2 hb)):=by
  obtain ⟨i,hi,rfl,x,hE⟩:=hI
  rw [hE]
  by_cases hlt:i < m.length
  · obtain ⟨r,hr⟩:∃ r,m[i]?=some r:=⟨_,List.getElem?_eq_getElem hlt⟩
    obtain ⟨id,off,cap,rs,es,rd,pr⟩:=pm.at hr
    subst es
    have rd0:=QA x rd
    obtain ⟨z1,z2⟩:=hl r (List.mem_of_getElem? hr)
    have k38:=Qlj h r rs z1 (pr.ext x) z2
    repeat' (first | refine Qg ?_ | refine Qb ?_ | refine Qt ?_ | refine QG ?_ | refine Qp ?_ | refine Qf ?_ | ((refine Qh ?_);first | refine Qk rfl ?_ | refine Qi rfl ?_) | ((refine Qe ?_);first | refine QO rfl rfl rfl rfl rfl ?_ | refine QD rfl rfl rfl rfl rfl rfl ?_) | ((refine Qc ?_);first | refine Qx (esz:=1) rfl rfl (by omega) ?_ | refine Q2 rfl rd0 ?_ | (refine Qn rfl k38 ?_;rintro v h1 ⟨e1,rfl⟩) | refine Qm rfl ?_ | refine QM rfl rfl (by omega) ?_ | refine Qw rfl rfl (by omega) ?_))
    exact Qs (j:=m.length-(i+1)) (by omega) ⟨i+1,by omega,rfl,x.trans e1,rfl⟩
  · have:i=m.length:=by omega
    subst this
    repeat' (first | refine Qg ?_ | refine Qb ?_ | refine QK ?_ | refine QH ?_ | refine Qf ?_ | ((refine Qh ?_);refine Qi rfl ?_) | ((refine Qe ?_);refine QD rfl rfl rfl rfl rfl rfl ?_) | ((refine Qc ?_);refine QE rfl rfl (by omega) ?_))
    exact Qz ⟨rfl,x,_,_,_,_,rfl⟩
theorem Qls (b:Nat) (m:List (List Pol)) (ms:SV) (h0:Qa) (pm:PolMx h0 ms m) (k:SqM b m):∃ r h',Cal FT HKt 11 [.sc ms] h0 r h'∧(Ext h0 h'∧DetR m h' r):=by
  refine Cal.of (F:=a11) rfl rfl rfl ?_
  obtain ⟨kd,hlow⟩:=k.dok
  have hn:=k.n
  have lm:=pm.len
  have hcol:Y2 m=m.length∨m.length=0:=by
    rcases Nat.eq_zero_or_pos m.length with h | h
    · exact .inr h
    · left
      unfold Y2
      refine k.sq _ ?_
      rw [List.getD_eq_getElem?_getD,List.getElem?_eq_getElem h];exact List.getElem_mem _
  have hc0:Y2 m=m.length:=by
    rcases hcol with h | h
    · exact h
    · rw [List.eq_nil_of_length_eq_zero h];rfl
  have hf:yg m:=fun r hr=>by rw [hc0];exact k.sq r hr
  have hl:∀ r∈m,r.length≤1000000:=fun r hr=>by rw [k.sq r hr];omega
  have k35:=fun H (e:Ext h0 H)=>QfJ H m ms (by omega) (pm.ext e) hl
  have k36:=fun H (e:Ext h0 H)=>QfI H m ms hn (by omega) (pm.ext e)
  have k37:=fun H (e:Ext h0 H)=>QbM H m ms (by omega) (pm.ext e)
  simp only [decide_eq_true hf] at k35
  rw [hc0] at k37
  have pm0:=pm
  obtain ⟨deg,hdeg⟩:∃ deg:Nat,Jh m m.length=(deg:Int):=⟨(Jh m m.length).toNat,(Int.toNat_of_nonneg (Qh3 fun r hr=>(kd.bd hr).1)).symm⟩
  have spans:∀ r∈m,0≤bS r-bF r∧∀ l∈esR r,∀ t∈l,0≤t.1∧t.1≤bS r-bF r:=fun r hr=>by
    have h1:=(kd.bd hr).1
    refine ⟨by omega,fun l hl t ht=>?_⟩
    have:=Qfo (kd.ca hr) (fun p hp t ht=>((kd.ok r hr p hp).2.2.2 t ht).1) (fun p hp t ht=>((kd.ok r hr p hp).2.2.2 t ht).2) l hl t ht
    exact ⟨this.1,this.2.1⟩
  have sums:(m.map fun r=>bS r-bF r).sum=(deg:Int):=by rw [← hdeg,← Qb6 (f:=fun r=>bS r-bF r)];rfl
  have lows:(m.map bF).sum=ZB m m.length:=(Qb6 (f:=bF)).symm
  have hsh:∀ e,dL (m.map esR) (List.range' 0 m.length) e=Uo m (e+ZB m m.length):=fun e=>by rw [Qa1,lows];rfl
  have hD:∀ x:Int,D ((m.map esR).map (evR x)) (List.range' 0 m.length)=sm (deg+1) fun j=>dL (m.map esR) (List.range' 0 m.length) (j:Int)*x ^ j:=fun x=>QiT esR (fun r=>bS r-bF r) x spans (by rw [sums];exact Int.le_refl _)
  have hdb:∀ j:Nat,(dL (m.map esR) (List.range' 0 m.length) (j:Int)).natAbs≤((m.map esR).map XT).foldr (·*·) 1:=fun j=>QcK (n:=m.length) (List.Sublist.refl _) fun r hr=>by
    obtain ⟨q,hq,rfl⟩:=List.mem_map.1 hr
    unfold esR;rw [List.length_map];exact k.sq q hq
  have k40:=fun H (e:Ext h0 H)=>Qlh b deg m ms (fun j=>dL (m.map esR) (List.range' 0 m.length) (j:Int)) H (pm.ext e) kd hdeg hD hdb
  have hsupp:∀ e,e < ZB m m.length∨ZB m m.length+deg < e→Uo m e=0:=fun e he=>by
    have:=hsh (e-ZB m m.length)
    rw [Int.sub_add_cancel] at this
    rw [← this]
    exact VU esR (fun r=>bS r-bF r) (fun r hr=>(spans r hr).2) (by rw [sums];omega)
  have hd2:deg≤65536:=by have:=kd.deg;omega
  repeat' (first | refine Qg ?_ | refine Qb ?_ | refine Qt ?_ | refine QG ?_ | refine Qp ?_ | refine Qf ?_ | ((refine Qh ?_);refine Qi rfl ?_) | ((refine Qe ?_);first | refine Qy rfl rfl ?_ | refine QB rfl rfl rfl ?_ | refine QO rfl rfl rfl rfl rfl ?_) | ((refine Qc ?_);first | (refine Xz ?_;intro h1 e1 c2) | (refine Qn rfl (k35 _ e1) ?_;rintro v h1 ⟨rfl,rfl⟩) | (refine Qn rfl (k36 _ e1) ?_;rintro v h1 ⟨rfl,rfl⟩) | (refine Qn rfl (k37 _ e1) ?_;rintro v h1 ⟨rfl,rfl⟩) | refine Qu rfl lm ?_ | refine X3 rfl rfl (by omega) ?_ | refine Qm rfl ?_ | refine XZ rfl ?_))
  refine QP (I11 m ms h0.length h1) m.length (R11 ms h0.length h1) ⟨0,Nat.zero_le _,rfl,Ext.refl _,rfl⟩ (Qhr m ms h0.length h1 (by omega) (pm.ext e1) (fun r hr=>⟨hl r hr,fun p hp=>(k.ok r hr p hp).2.1⟩)) ?_
  rintro ex E' h2 ⟨rfl,x2,_,_,_,_,rfl⟩
  have c22:=c2.ext x2
  obtain ⟨v4,h4,cal4,x4,res⟩:=k40 h2 (e1.trans x2)
  rcases res with ⟨⟨j,hj,hz,hne⟩,rfl⟩ | ⟨nz,⟨small,s,rfl,d4⟩ | ⟨⟨j,hj,hbig⟩,rfl⟩⟩
  · have c24:=c22.ext x4
    have k39:=fun H=>VX H false .nilS
    have x24:=x2.trans x4
    repeat' (first | refine Qg ?_ | refine Qb ?_ | refine QC ?_ | refine Qp ?_ | refine Qv ?_ | refine Qf ?_ | ((refine Qh ?_);refine Qi rfl ?_) | ((refine Qe ?_);first | refine Qy rfl rfl ?_ | refine QB rfl rfl rfl ?_) | ((refine Qc ?_);first | (refine Qn (R:=fun v h=>v=_∧h=h4) rfl ⟨_,_,cal4,rfl,rfl⟩ ?_;rintro v h ⟨rfl,rfl⟩) | (refine J3 rfl ?_;intro h5 e5 c6;replace x24:=x24.trans e5) | refine Xa rfl c6 ?_ | (refine Qn rfl (k39 _) ?_;rintro v h6 ⟨e6,rfl⟩;replace c6:=c6.ext e6;replace x24:=x24.trans e6) | (refine Xw rfl rfl (c2.ext x24) ?_;intro h7 w7) | refine QX rfl ?_ | refine Qm rfl ?_ | refine QU rfl rfl ?_ | refine XZ rfl ?_ | refine X6 rfl rfl ?_))
    refine ⟨.inr rfl,Zc rfl w7.cel.read rfl ⟨w7.ext (e1.trans x24) (Nat.le_refl _),.inl ⟨.nilS,[],rfl,IsD.nil _,Can.nil,by simp,fun e=>?_⟩⟩⟩
    have hb0:=Qh2 k e
    have hm:m.getD j []∈m:=by rw [List.getD_eq_getElem?_getD,List.getElem?_eq_getElem hj];exact List.getElem_mem _
    have hw0:XT (rT (m.getD j []))=0:=by
      have:=VZ (kd.ca hm)
      rw [hz] at this
      rw [qy]
      unfold rT
      rw [List.map_map]
      have e:(m.getD j []).map (Yr∘Pol.ts)=(m.getD j []).map fun _=>0:=List.map_congr_left fun p hp=>by simp [this p hp,Yr]
      rw [e]
      generalize m.getD j []=l
      induction l with
      | nil=>rfl
      | cons a l ih=>simp only [List.map_cons,List.sum_cons,ih]
    rw [Ul (List.mem_map.2 ⟨rT (m.getD j []),List.mem_map.2 ⟨_,hm,rfl⟩,hw0⟩)] at hb0
    show (0:Int)=_
    omega
  · have c24:=c22.ext x4
    obtain ⟨ts,ets,can,hts,hcf⟩:=UU (low:=ZB m m.length) (xs:=(List.range (deg+1)).map fun j:Nat=>dL (m.map esR) (List.range' 0 m.length) (j:Int)) (fun x hx=>by
        obtain ⟨j,hj,rfl⟩:=List.mem_map.1 hx
        rw [List.mem_range] at hj
        exact small j (by omega)) (by simp only [eM];omega) (fun i hi=>by simp only [eM];simp at hi;omega)
    rw [ets] at d4
    have k39:=fun H=>VX H false s
    have x24:=x2.trans x4
    have d5:=d4
    rw [ets] at cal4
    repeat' (first | refine Qg ?_ | refine Qb ?_ | refine QC ?_ | refine Qp ?_ | refine Qv ?_ | refine Qf ?_ | ((refine Qh ?_);refine Qi rfl ?_) | ((refine Qe ?_);first | refine Qy rfl rfl ?_ | refine QB rfl rfl rfl ?_) | ((refine Qc ?_);first | (refine Qn (R:=fun v h=>v=_∧h=h4) rfl ⟨_,_,cal4,rfl,rfl⟩ ?_;rintro v h ⟨rfl,rfl⟩) | (refine J3 rfl ?_;intro h5 e5 c6;replace x24:=x24.trans e5;replace d5:=d5.ext e5) | refine Xa rfl c6 ?_ | (refine Qn rfl (k39 _) ?_;rintro v h6 ⟨e6,rfl⟩;replace c6:=c6.ext e6;replace x24:=x24.trans e6;replace d5:=d5.ext e6) | (refine Xw rfl rfl (c2.ext x24) ?_;intro h7 w7) | refine QX rfl ?_ | refine Qm rfl ?_ | refine QU rfl rfl ?_ | refine XZ rfl ?_ | refine X6 rfl rfl ?_))
    refine ⟨.inr rfl,Zc rfl w7.cel.read rfl ⟨w7.ext (e1.trans x24) (Nat.le_refl _),.inl ⟨s,ts,rfl,d5.wrC w7,can,fun t ht=>⟨(hts t ht).2.2.1,(hts t ht).2.2.2,?_⟩,fun e=>?_⟩⟩⟩
    · have:=hts t ht
      simp at this;omega
    · rw [hcf e]
      simp only [List.length_map,List.length_range]
      by_cases he:ZB m m.length≤e∧e < ZB m m.length+(deg+1:Nat)
      · rw [if_pos he,List.getD_eq_getElem?_getD,List.getElem?_map,List.getElem?_range (by omega)]
        show dL _ _ (((e-ZB m m.length).toNat:Nat):Int)=_
        rw [Int.toNat_of_nonneg (by omega),hsh,Int.sub_add_cancel]
      · rw [if_neg he,hsupp e (by omega)]
  · have c24:=c22.ext x4
    have k39:=fun H=>VX H false .nilS
    have x24:=x2.trans x4
    repeat' (first | refine Qg ?_ | refine Qb ?_ | refine QL ?_ | refine QC ?_ | refine Qv ?_ | refine Qf ?_ | ((refine Qh ?_);refine Qk rfl ?_) | ((refine Qe ?_);first | refine Qy rfl rfl ?_ | refine QB rfl rfl rfl ?_) | ((refine Qc ?_);first | (refine Qn (R:=fun v h=>v=_∧h=h4) rfl ⟨_,_,cal4,rfl,rfl⟩ ?_;rintro v h ⟨rfl,rfl⟩) | refine X5 rfl rfl ?_ | (refine J3 rfl ?_;intro h5 e5 c6;replace x24:=x24.trans e5) | (refine Xw rfl rfl (c2.ext x24) ?_;intro h7 w7) | refine Xo rfl ?_ | refine Qm rfl ?_ | refine QY rfl rfl ?_ | refine Yh rfl ?_ | refine X6 rfl rfl ?_))
    exact ⟨.inr rfl,Zc rfl w7.cel.read rfl ⟨w7.ext (e1.trans x24) (Nat.le_refl _),.inr ⟨⟨_,by rw [← hsh];exact hbig⟩,rfl⟩⟩⟩
theorem Qie (m:List (List Pol)) (ms:SV) (h0:Qa) (pm:PolMx h0 ms m) (hn:m.length≤64) (hc:∀ r∈m,r.length≤64) (hs:¬ (yg m∧m.length=Y2 m)) :
    ∃ r h',Cal FT HKt 11 [.sc ms] h0 r h'∧(Ext h0 h'∧r=.tup [.agg [.bool false,.nilS],.sc (.int .i64 3)]):=by
  refine Cal.of (F:=a11) rfl rfl rfl ?_
  have lm:=pm.len
  have hcol:Y2 m≤64:=by
    unfold Y2
    rw [List.getD_eq_getElem?_getD]
    rcases h:m[0]? with _ | x
    · simp
    · exact hc x (List.mem_of_getElem? h)
  have k35:=fun H (e:Ext h0 H)=>QfJ H m ms (by omega) (pm.ext e) fun r hr=>by have:=hc r hr;omega
  have k36:=fun H (e:Ext h0 H)=>QfI H m ms hn hcol (pm.ext e)
  have k37:=fun H (e:Ext h0 H)=>QbM H m ms (by omega) (pm.ext e)
  by_cases hf:yg m
  · have hne:m.length≠Y2 m:=fun e=>hs ⟨hf,e⟩
    simp only [decide_eq_true hf] at k35
    generalize Y2 m=c at *
    repeat' (first | refine Qg ?_ | refine Qb ?_ | refine QL ?_ | refine Qt ?_ | refine Q9 ?_ | refine Qv ?_ | refine Qf ?_ | ((refine Qh ?_);first | refine Qk rfl ?_ | refine Qi rfl ?_) | ((refine Qe ?_);first | refine Qy rfl rfl ?_ | refine QB rfl rfl rfl ?_) | ((refine Qc ?_);first | (refine Xz ?_;intro h1 e1 c2) | (refine Qn rfl (k35 _ e1) ?_;rintro v h1 ⟨rfl,rfl⟩) | (refine Qn rfl (k36 _ e1) ?_;rintro v h1 ⟨rfl,rfl⟩) | (refine Qn rfl (k37 _ e1) ?_;rintro v h1 ⟨rfl,rfl⟩) | refine Qu rfl lm ?_ | refine Yc rfl rfl (by omega) ?_ | refine X5 rfl rfl ?_ | (refine Xw rfl rfl c2 ?_;intro h7 w7) | refine Qm rfl ?_ | refine XZ rfl ?_))
    exact ⟨.inr rfl,Zc rfl w7.cel.read rfl ⟨w7.ext e1 (Nat.le_refl _),rfl⟩⟩
  · simp only [decide_eq_false hf] at k35
    repeat' (first | refine Qg ?_ | refine Qb ?_ | refine QL ?_ | refine Qt ?_ | refine Q9 ?_ | refine Qv ?_ | refine Qf ?_ | ((refine Qh ?_);refine Qk rfl ?_) | ((refine Qe ?_);first | refine Qy rfl rfl ?_ | refine QB rfl rfl rfl ?_) | ((refine Qc ?_);first | (refine Xz ?_;intro h1 e1 c2) | (refine Qn rfl (k35 _ e1) ?_;rintro v h1 ⟨rfl,rfl⟩) | refine X5 rfl rfl ?_ | (refine Xw rfl rfl c2 ?_;intro h7 w7) | refine Qm rfl ?_ | refine Yh rfl ?_))
    exact ⟨.inr rfl,Zc rfl w7.cel.read rfl ⟨w7.ext e1 (Nat.le_refl _),rfl⟩⟩
end Go.Proofs.YtofknpknogfijaaGreatDoor

