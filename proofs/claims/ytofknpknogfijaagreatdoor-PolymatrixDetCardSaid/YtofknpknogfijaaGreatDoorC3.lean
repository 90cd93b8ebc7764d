/- Sums: contracts. -/
import Derived.Test.YtofknpknogfijaaGreatDoorQ0
namespace Go.Proofs.YtofknpknogfijaaGreatDoor
open Go.Ab
set_option linter.unusedVariables false
set_option linter.unusedSimpArgs false
set_option maxRecDepth 20000
set_option maxHeartbeats 8000000
attribute [local irreducible] Qj wA Xm Xk QI Qo QW QV
set_option linter.unusedSectionVars false
variable [HB]
structure Cb (h0 h:Qa) (q3 q4 q5 q6 q7 q8:Nat) (sp sq s:SV) (F:Bool) (r:List Tm):Prop where
  e:Ext h0 h
  c3:Cel h q3 (.bool false) sp
  c4:Cel h q4 (.bool false) sq
  c5:Cel1 h q5 (.fn 52 [])
  c6:Cel h q6 (.bool false) .nilS
  c7:Cel h q7 (.bool false) s
  c8:Cel1 h q8 (.bool F)
  o:OwnD h0 h s (tms r)
  ord:h0.length≤q3∧q3 < q4∧q4 < q5∧q5 < q6∧q6 < q7∧q7 < q8
def fitB (F:Bool) (c:Int):Bool:=F && decide (c.natAbs≤cM)
def mA:List Tm→List Tm→List Tm:=mrg fun a b=>a+b
def QaT (l:List Tm):Prop:=∀ t∈l,t.2.natAbs≤cM
structure Mg (p q:List Tm) (i j:Nat) (F:Bool) (r:List Tm):Prop where
  eq:mA p q=r++mA (p.drop i) (q.drop j)
  ft:QaT (mA p q)↔(F=true∧QaT (mA (p.drop i) (q.drop j)))
  ln:r.length≤i+j
def I51 (h0:Qa) (q3 q4 q5 q6 q7 q8:Nat) (sp sq:SV) (p q:List Tm) (E:Env) (h:Qa):Prop:=∃ (i j:Nat) (s:SV) (F:Bool) (r:List Tm),i≤p.length∧j≤q.length∧Cb h0 h q3 q4 q5 q6 q7 q8 sp sq s F r∧Mg p q i j F r ∧
  E.keep [3,4,6,7,8,9,10,11]=[(3,some (.sc (.ptr q3 0))),(4,some (.sc (.ptr q4 0))),(6,some (.sc (.ptr q6 0))),(7,some (.sc (.ptr q7 0))),(8,some (.sc (.ptr q8 0))),(9,some (.sc (.fn 83 [(q5,0),(q8,0),(q7,0)]))),(10,some (.sc (.int .i64 (i:Nat)))),(11,some (.sc (.int .i64 (j:Nat))))]
def R51 (h0:Qa) (q3 q4 q5 q6 q7 q8:Nat) (sp sq:SV) (p q:List Tm) (ex:Ex) (E:Env) (h:Qa):Prop:=ex=.ex 0∧∃ (s:SV) (F:Bool),Cb h0 h q3 q4 q5 q6 q7 q8 sp sq s F (mA p q)∧(QaT (mA p q)↔F=true)∧∃ a b c d e f,
  E=[(3,a),(4,b),(6,some (.sc (.ptr q6 0))),(7,some (.sc (.ptr q7 0))),(8,some (.sc (.ptr q8 0))),(9,c),(10,d),(11,e),(40,f)]
def qC (p q:List Tm) (E:Env) (_:Qa):Nat:=match (E.keep [3,4,6,7,8,9,10,11]).get 10,(E.keep [3,4,6,7,8,9,10,11]).get 11 with | some (.sc (.int .i64 i)),some (.sc (.int .i64 j))=>p.length+q.length-(i+j).toNat | _,_=>0
end Go.Proofs.YtofknpknogfijaaGreatDoor


/- Sums: the loop,and Add. -/
namespace Go.Proofs.YtofknpknogfijaaGreatDoor
open Go.Ab
set_option linter.unusedVariables false
set_option linter.unusedSimpArgs false
set_option maxRecDepth 20000
set_option maxHeartbeats 8000000
attribute [local irreducible] Qj wA Xm Xk QI Qo QW QV
set_option linter.unusedSectionVars false
variable [HB]
open Classical in
noncomputable def addP (p q:Pol):Pol:=if p.big=true∨q.big=true then JY else if QaT (mA p.ts q.ts) then ⟨false,mA p.ts q.ts⟩ else JY
end Go.Proofs.YtofknpknogfijaaGreatDoor


/- Coefficients: contracts. -/
namespace Go.Proofs.YtofknpknogfijaaGreatDoor
open Go.Ab
set_option linter.unusedVariables false
set_option linter.unusedSimpArgs false
set_option maxRecDepth 20000
set_option maxHeartbeats 8000000
attribute [local irreducible] Qj wA Xm Xk QI Qo QW QV
set_option linter.unusedSectionVars false
variable [HB]
theorem QcQ (h0:Qa) (a:Int):∃ r h',Cal FT HKt 117 [.sc (.int .i64 a)] h0 r h'∧r=.sc (.bool false)∧h'=h0:=by
  refine Cal.of (F:=a117) rfl rfl rfl ?_
  repeat' (first | refine Qg ?_ | refine Qb ?_ | refine Qv ?_ | refine Qf ?_ | ((refine Qe ?_);refine Qq rfl ?_) | ((refine Qc ?_);first | refine Qm rfl ?_ | refine X3 rfl rfl (by omega) ?_))
  exact ⟨.inr rfl,rfl,rfl⟩
def Jo (a b:Int):Int:=if a < b then -1 else if b < a then 1 else 0
theorem Qk5 (h0:Qa) (a b:Int):∃ r h',Cal FT HKt 91 [.sc (.int .i64 a),.sc (.int .i64 b)] h0 r h'∧r=.sc (.int .i64 (Jo a b))∧h'=h0:=by
  refine Cal.of (F:=a91) rfl rfl rfl ?_
  have k84a:=fun H=>QcQ H a
  have k84b:=fun H=>QcQ H b
  by_cases h1:a < b
  · have e:Jo a b = -1:=by unfold Jo;rw [if_pos h1]
    rw [e]
    repeat' (first | refine Qg ?_ | refine Qb ?_ | refine QL ?_ | refine Qp ?_ | refine Qv ?_ | refine Qf ?_ | ((refine Qh ?_);first | refine Qk rfl ?_ | refine Qi rfl ?_) | ((refine Qe ?_);first | refine Qq rfl ?_ | refine Qy rfl rfl ?_ | refine QB rfl rfl rfl ?_ | refine QS rfl rfl rfl rfl ?_) | ((refine Qc ?_);first | (refine Qn rfl (k84a _) ?_;rintro r _ ⟨rfl,rfl⟩) | (refine Qn rfl (k84b _) ?_;rintro r _ ⟨rfl,rfl⟩) | refine Qm rfl ?_ | refine Qw rfl rfl (by omega) ?_))
    exact ⟨.inr rfl,rfl,rfl⟩
  · by_cases h2:b < a
    · have e:Jo a b=1:=by unfold Jo;rw [if_neg h1,if_pos h2]
      rw [e]
      repeat' (first | refine Qg ?_ | refine Qb ?_ | refine QL ?_ | refine Qp ?_ | refine Qv ?_ | refine Qf ?_ | ((refine Qh ?_);first | refine Qk rfl ?_ | refine Qi rfl ?_) | ((refine Qe ?_);first | refine Qq rfl ?_ | refine Qy rfl rfl ?_ | refine QB rfl rfl rfl ?_ | refine QS rfl rfl rfl rfl ?_) | ((refine Qc ?_);first | (refine Qn rfl (k84a _) ?_;rintro r _ ⟨rfl,rfl⟩) | (refine Qn rfl (k84b _) ?_;rintro r _ ⟨rfl,rfl⟩) | refine Qm rfl ?_ | refine QE rfl rfl (by omega) ?_ | refine XG rfl rfl (by omega) ?_))
      exact ⟨.inr rfl,rfl,rfl⟩
    · have e:Jo a b=0:=by unfold Jo;rw [if_neg h1,if_neg h2]
      rw [e]
      repeat' (first | refine Qg ?_ | refine Qb ?_ | refine Qp ?_ | refine Qv ?_ | refine Qf ?_ | ((refine Qh ?_);refine Qi rfl ?_) | ((refine Qe ?_);first | refine Qq rfl ?_ | refine Qy rfl rfl ?_ | refine QB rfl rfl rfl ?_ | refine QS rfl rfl rfl rfl ?_) | ((refine Qc ?_);first | (refine Qn rfl (k84a _) ?_;rintro r _ ⟨rfl,rfl⟩) | (refine Qn rfl (k84b _) ?_;rintro r _ ⟨rfl,rfl⟩) | refine Qm rfl ?_ | refine QE rfl rfl (by omega) ?_ | refine XA rfl rfl (by omega) ?_))
      exact ⟨.inr rfl,rfl,rfl⟩
theorem QfE (h0:Qa) (a c b:Int):∃ r h',Cal FT HKt 90 ([.agg [.int .i64 a,.int .i64 c],.sc (.int .i64 b)]++([]:List (Nat × Nat)).map fun p=>AV.sc (.ptr p.1 p.2)) h0 r h'∧Ext h0 h'∧r=.sc (.int .i64 (Jo a b)):=by
  refine Cal.of (F:=a90) rfl rfl rfl ?_
  have k63:=fun H=>Qk5 H a b
  repeat' (first | refine Qg ?_ | refine Qb ?_ | refine Qv ?_ | refine Qf ?_ | ((refine Qe ?_);first | refine Qq rfl ?_ | refine Qy rfl rfl ?_) | ((refine Qc ?_);first | (refine Q3 rfl ?_;intro h1 e1 c1) | refine Q6 rfl c1 ?_ | (refine Qn rfl (k63 _) ?_;rintro r _ ⟨rfl,rfl⟩) | refine Qm rfl ?_ | refine X6 rfl rfl ?_))
  exact ⟨.inr rfl,e1,rfl⟩
def I89 (h0:Qa) (s:SV) (ts:List Tm) (tg:Int) (E:Env) (h:Qa):Prop:=Ext h0 h∧∃ i j:Nat,i≤j∧j≤ts.length∧(∀ k,k < i→∀ t,ts[k]?=some t→t.1 < tg)∧(∀ k,j≤k→∀ t,ts[k]?=some t→tg≤t.1) ∧
  E.keep [0,1,2,8,9,10]=[(0,some (.sc s)),(1,some (.sc (.int .i64 tg))),(2,some (.sc (.fn 90 []))),(8,some (.sc (.int .i64 (ts.length:Nat)))),(9,some (.sc (.int .i64 (i:Nat)))),(10,some (.sc (.int .i64 (j:Nat))))]
def R89 (h0:Qa) (s:SV) (ts:List Tm) (tg:Int) (ex:Ex) (E:Env) (h:Qa):Prop:=Ext h0 h∧ex=.ex 0∧∃ i:Nat,i≤ts.length∧(∀ k,k < i→∀ t,ts[k]?=some t→t.1 < tg)∧(∀ k,i≤k→∀ t,ts[k]?=some t→tg≤t.1)∧∃ a b,
  E=[(0,some (.sc s)),(1,some (.sc (.int .i64 tg))),(2,some (.sc (.fn 90 []))),(8,some (.sc (.int .i64 (ts.length:Nat)))),(9,some (.sc (.int .i64 (i:Nat)))),(10,a),(17,b)]
def qS (E:Env) (_:Qa):Nat:=match (E.keep [0,1,2,8,9,10]).get 9,(E.keep [0,1,2,8,9,10]).get 10 with | some (.sc (.int .i64 i)),some (.sc (.int .i64 j))=>(j-i).toNat | _,_=>0
theorem QbS {ts:List Tm} (hc:Can ts) {a b:Nat} {t u:Tm} (ha:ts[a]?=some t) (hb:ts[b]?=some u) (h:a≤b):t.1≤u.1:=by
  by_cases e:a=b
  · subst e;rw [ha] at hb;cases hb;exact Int.le_refl _
  · obtain ⟨h1,rfl⟩:=List.getElem?_eq_some_iff.1 ha
    obtain ⟨h2,rfl⟩:=List.getElem?_eq_some_iff.1 hb
    have:=(List.pairwise_iff_getElem.1 hc.asc) a b h1 h2 (by omega)
    omega
theorem Qha (h0:Qa) (s:SV) (ts:List Tm) (tg:Int) (hs:IsD h0 s (tms ts)) (hc:Can ts) (hl:ts.length≤3000000) (E:Env) (h:Qa) (hI:I89 h0 s ts tg E h) :
    wA FT HKt QiX (E.keep [0,1,2,8,9,10]) h (QI (I89 h0 s ts tg) qS (qS E h) (R89 h0 s ts tg)):=by
  obtain ⟨he,i,j,hij,hj,hlo,hhi,hE⟩:=hI
  have hm:qS E h=j-i:=by unfold qS;rw [hE];show ((j:Int)-(i:Int)).toNat=_;omega
  rw [hm,hE]
  by_cases hlt:i < j
  · obtain ⟨m,hmm⟩:∃ m:Nat,m=(i+j) / 2:=⟨_,rfl⟩
    have e1:((i:Int)+(j:Int)) / ((2 ^ 1:Nat):Int)=(m:Int):=by rw [hmm];simp
    obtain ⟨t,ht⟩:∃ t,ts[m]?=some t:=⟨_,List.getElem?_eq_getElem (by omega)⟩
    obtain ⟨id,off,cap,e2,r0⟩:=hs.at (i:=m) (p:=tmP t) (by simp [ht])
    rw [Xg] at e2
    subst e2
    have r1:=QA he r0
    have k62:=QfE h t.1 t.2 tg
    by_cases hv:t.1 < tg
    · have e:Jo t.1 tg = -1:=by unfold Jo;rw [if_pos hv]
      rw [e] at k62
      repeat' (first | refine Qg ?_ | refine Qb ?_ | refine Qt ?_ | refine QG ?_ | refine Qp ?_ | refine Qf ?_ | ((refine Qh ?_);refine Qk rfl ?_) | ((refine Qe ?_);first | refine QD rfl rfl rfl rfl rfl rfl ?_ | refine Q4 rfl rfl rfl rfl rfl rfl rfl ?_ | refine Q8 rfl rfl rfl rfl rfl rfl rfl rfl ?_) | ((refine Qc ?_);first | (refine yX rfl (by omega) ?_) | (refine XO (q:=1) rfl rfl rfl (by omega) ?_;rw [e1]) | refine Qx (esz:=2) rfl rfl (by omega) ?_ | refine Yo rfl r1 ?_ | (refine ZV rfl rfl k62 ?_;rintro r h2 ⟨e2,rfl⟩) | refine Qm rfl ?_ | refine QM rfl rfl (by omega) ?_ | refine Yi rfl (by omega) ?_ | refine Qw rfl rfl (by omega) ?_))
      refine Ym ⟨he.trans e2,m+1,j,by omega,hj,fun k hk u hu=>?_,hhi,rfl⟩ (by unfold qS;show ((j:Int)-((m:Nat)+1)).toNat < j-i;omega)
      have:=QbS hc hu ht (by omega)
      omega
    · have e:¬ Jo t.1 tg < 0:=by unfold Jo;rw [if_neg hv];split <;> omega
      generalize Jo t.1 tg=C at *
      repeat' (first | refine Qg ?_ | refine Qb ?_ | refine Qt ?_ | refine QG ?_ | refine Qp ?_ | refine Qf ?_ | ((refine Qh ?_);first | refine Qk rfl ?_ | refine Qi rfl ?_) | ((refine Qe ?_);first | refine QD rfl rfl rfl rfl rfl rfl ?_ | refine Q4 rfl rfl rfl rfl rfl rfl rfl ?_ | refine Q8 rfl rfl rfl rfl rfl rfl rfl rfl ?_) | ((refine Qc ?_);first | (refine yX rfl (by omega) ?_) | (refine XO (q:=1) rfl rfl rfl (by omega) ?_;rw [e1]) | refine Qx (esz:=2) rfl rfl (by omega) ?_ | refine Yo rfl r1 ?_ | (refine ZV rfl rfl k62 ?_;rintro r h2 ⟨e2,rfl⟩) | refine Qm rfl ?_ | refine QM rfl rfl (by omega) ?_ | refine Yi rfl (by omega) ?_ | refine Qw rfl rfl (by omega) ?_ | refine QE rfl rfl (by omega) ?_))
      refine Ym ⟨he.trans e2,i,m,by omega,by omega,hlo,fun k hk u hu=>?_,rfl⟩ (by unfold qS;show ((m:Int)-(i:Int)).toNat < j-i;omega)
      have:=QbS hc ht hu hk
      omega
  · have:j=i:=by omega
    subst this
    repeat' (first | refine Qg ?_ | refine Qb ?_ | refine QK ?_ | refine QH ?_ | refine Qf ?_ | ((refine Qh ?_);refine Qi rfl ?_) | ((refine Qe ?_);refine Q4 rfl rfl rfl rfl rfl rfl rfl ?_) | ((refine Qc ?_);first | refine Qm rfl ?_ | refine QE rfl rfl (by omega) ?_))
    exact Yx ⟨he,rfl,j,hj,hlo,hhi,_,_,rfl⟩
theorem Qk6 (h0:Qa) (s:SV) (ts:List Tm) (tg:Int) (hs:IsD h0 s (tms ts)) (hc:Can ts) (hl:ts.length≤3000000) :
    ∃ r h',Cal FT HKt 89 [.sc s,.sc (.int .i64 tg),.sc (.fn 90 [])] h0 r h'∧Ext h0 h'∧∃ (i:Nat) (b:Bool),r=.tup [.sc (.int .i64 (i:Nat)),.sc (.bool b)]∧((b=true∧∃ t,ts[i]?=some t∧t.1=tg)∨(b=false∧cf ts tg=0)):=by
  refine Cal.of (F:=a89) rfl rfl rfl ?_
  have ls:=hs.len
  rw [Xg] at ls
  repeat' (first | refine Qg ?_ | refine Qb ?_ | refine Qt ?_ | refine Qf ?_ | ((refine Qe ?_);first | refine QB rfl rfl rfl ?_ | refine QS rfl rfl rfl rfl ?_ | refine QD rfl rfl rfl rfl rfl rfl ?_) | ((refine Qc ?_);first | refine Qu rfl ls ?_ | refine Qm rfl ?_))
  refine Js (I89 h0 s ts tg) qS (R89 h0 s ts tg) ⟨Ext.refl _,0,ts.length,Nat.zero_le _,Nat.le_refl _,fun k hk=>absurd hk (Nat.not_lt_zero _),fun k hk t ht=>by have:=(List.getElem?_eq_some_iff.1 ht).1;omega,rfl⟩ (Qha h0 s ts tg hs hc hl) ?_
  rintro ex E' h1 ⟨e1,rfl,i,hi,hlo,hhi,_,_,rfl⟩
  by_cases hlt:i < ts.length
  · obtain ⟨t,ht⟩:∃ t,ts[i]?=some t:=⟨_,List.getElem?_eq_getElem hlt⟩
    have hge:=hhi i (Nat.le_refl _) t ht
    obtain ⟨id,off,cap,e2,r0⟩:=hs.at (i:=i) (p:=tmP t) (by simp [ht])
    rw [Xg] at e2
    subst e2
    have r1:=QA e1 r0
    have k62:=QfE h1 t.1 t.2 tg
    by_cases hv:t.1=tg
    · have e:Jo t.1 tg=0:=by unfold Jo;rw [if_neg (by omega),if_neg (by omega)]
      rw [e] at k62
      repeat' (first | refine Qg ?_ | refine Qb ?_ | refine QC ?_ | refine Qv ?_ | refine Qf ?_ | ((refine Qe ?_);refine Qy rfl rfl ?_) | ((refine Qc ?_);first | refine Qx (esz:=2) rfl rfl (by omega) ?_ | refine Yo rfl r1 ?_ | (refine ZV rfl rfl k62 ?_;rintro r h2 ⟨e2,rfl⟩) | refine QX rfl ?_ | refine Qm rfl ?_ | refine QY rfl rfl ?_ | refine Qw rfl rfl (by omega) ?_ | refine Xt rfl rfl (by omega) ?_))
      exact ⟨.inr rfl,e1.trans e2,i,true,rfl,.inl ⟨rfl,t,ht,hv⟩⟩
    · have e:Jo t.1 tg≠0:=by unfold Jo;rw [if_neg (by omega),if_pos (by omega)];omega
      generalize Jo t.1 tg=C at *
      repeat' (first | refine Qg ?_ | refine Qb ?_ | refine QC ?_ | refine Qv ?_ | refine Qf ?_ | ((refine Qe ?_);refine Qy rfl rfl ?_) | ((refine Qc ?_);first | refine Qx (esz:=2) rfl rfl (by omega) ?_ | refine Yo rfl r1 ?_ | (refine ZV rfl rfl k62 ?_;rintro r h2 ⟨e2,rfl⟩) | refine QX rfl ?_ | refine Qm rfl ?_ | refine QY rfl rfl ?_ | refine Qw rfl rfl (by omega) ?_ | refine Xh rfl rfl (by omega) ?_))
      refine ⟨.inr rfl,e1.trans e2,i,false,rfl,.inr ⟨rfl,JU fun u hu he=>?_⟩⟩
      obtain ⟨k,hk⟩:=List.getElem?_of_mem hu
      by_cases hki:k < i
      · have:=hlo k hki u hk;omega
      · have:=QbS hc ht hk (by omega);omega
  · repeat' (first | refine Qg ?_ | refine Qb ?_ | refine QC ?_ | refine Qv ?_ | refine Qf ?_ | ((refine Qe ?_);refine Qy rfl rfl ?_) | ((refine Qc ?_);first | refine Xo rfl ?_ | refine Qm rfl ?_ | refine QU rfl rfl ?_ | refine QE rfl rfl (by omega) ?_))
    refine ⟨.inr rfl,e1,i,false,rfl,.inr ⟨rfl,JU fun u hu he=>?_⟩⟩
    obtain ⟨k,hk⟩:=List.getElem?_of_mem hu
    have hk2:=(List.getElem?_eq_some_iff.1 hk).1
    have:=hlo k (by omega) u hk;omega
theorem Qlb (h0:Qa) (b:Bool) (s:SV) (ts:List Tm) (tg:Int) (hs:IsD h0 s (tms ts)) (hc:Can ts) (hl:ts.length≤3000000) :
    ∃ r h',Cal FT HKt 62 [.agg [.bool b,s],.sc (.int .i64 tg)] h0 r h'∧Ext h0 h'∧r=.sc (.int .i64 (cf ts tg)):=by
  refine Cal.of (F:=a62) rfl rfl rfl ?_
  have k61:=fun H (e:Ext h0 H)=>Qk6 H s ts tg (hs.ext e) hc hl
  repeat' (first | refine Qg ?_ | refine Qb ?_ | refine Qf ?_ | ((refine Qe ?_);first | refine Qy rfl rfl ?_ | refine QB rfl rfl rfl ?_) | ((refine Qc ?_);first | (refine Q3 rfl ?_;intro h1 e1 c1) | refine QQ rfl ?_ | refine Xc rfl c1 ?_ | (refine Qn rfl (k61 h1 e1) ?_;rintro r h2 ⟨e2,i,bb,rfl,hor⟩;have c2:=c1.ext e2) | refine Qm rfl ?_ | refine X6 rfl rfl ?_))
  rcases hor with ⟨rfl,t,ht,he⟩ | ⟨rfl,h0⟩
  · obtain ⟨id,off,cap,e3,r0⟩:=hs.at (i:=i) (p:=tmP t) (by simp [ht])
    rw [Xg] at e3
    subst e3
    have hlt:=(List.getElem?_eq_some_iff.1 ht).1
    have r2:=QA (e1.trans e2) (rd1 r0).2
    have e:cf ts tg=t.2:=by rw [← he];exact Uq hc (List.mem_of_getElem? ht)
    rw [e]
    repeat' (first | refine Qg ?_ | refine Qb ?_ | refine Qp ?_ | refine Qv ?_ | refine Qf ?_ | ((refine Qh ?_);refine Qi rfl ?_) | ((refine Qe ?_);refine Qq rfl ?_) | ((refine Qc ?_);first | refine QQ rfl ?_ | refine Xc rfl c2 ?_ | refine Qx (esz:=2) rfl rfl (by omega) ?_ | refine Q2 rfl r2 ?_ | refine Qm rfl ?_))
    exact ⟨.inr rfl,e1.trans e2,rfl⟩
  · rw [h0]
    repeat' (first | refine Qg ?_ | refine Qb ?_ | refine QL ?_ | refine Qv ?_ | refine Qf ?_ | ((refine Qh ?_);refine Qk rfl ?_) | ((refine Qe ?_);refine Qq rfl ?_) | ((refine Qc ?_);refine Qm rfl ?_))
    exact ⟨.inr rfl,e1.trans e2,rfl⟩
end Go.Proofs.YtofknpknogfijaaGreatDoor

