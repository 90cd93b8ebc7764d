/- Sums: contracts. -/
import Derived.Test.YtofknpknogfijaaGreatDoorPY
import Derived.Test.YtofknpknogfijaaGreatDoorEX9
import Derived.Test.YtofknpknogfijaaGreatDoorPM
import Derived.Test.YtofknpknogfijaaGreatDoorW2
import Derived.Lib.ItoaLen
import Derived.Lib.ItoaMem
import Derived.Test.YtofknpknogfijaaGreatDoorPE
import Derived.Test.YtofknpknogfijaaGreatDoorT5
namespace Go.Proofs.YtofknpknogfijaaGreatDoor
open Go.Ab
set_option linter.unusedVariables false
set_option linter.unusedSimpArgs false
set_option maxRecDepth 20000
set_option maxHeartbeats 8000000
attribute [local irreducible] Qi wA Xk Xj Qz Qo QS QV
set_option linter.unusedSectionVars false
variable [HB]
structure Cb (h0 h:Qa) (q3 q4 q5 q6 q7 q8:Nat) (sp sq s:SV) (F:Bool) (r:List Tm):Prop where
  e:Ext h0 h
  c3:Cel h q3 (.bool false) sp
  c4:Cel h q4 (.bool false) sq
  c5:Cel1 h q5 (.fn 52 [])
  c6:Cel h q6 (.bool false) .nilS
  c7:Cel h q7 (.bool false) s
  c8:Cel1 h q8 (.bool F)
  o:OwnD h0 h s (tms r)
  ord:h0.length≤q3∧q3 < q4∧q4 < q5∧q5 < q6∧q6 < q7∧q7 < q8
def fitB (F:Bool) (c:Int):Bool:=F && decide (c.natAbs≤cM)
def mA:List Tm→List Tm→List Tm:=mrg fun a b=>a+b
def Qai (l:List Tm):Prop:=∀ t∈l,t.2.natAbs≤cM
structure Mg (p q:List Tm) (i j:Nat) (F:Bool) (r:List Tm):Prop where
  eq:mA p q=r++mA (p.drop i) (q.drop j)
  ft:Qai (mA p q)↔(F=true∧Qai (mA (p.drop i) (q.drop j)))
  ln:r.length≤i+j
def I51 (h0:Qa) (q3 q4 q5 q6 q7 q8:Nat) (sp sq:SV) (p q:List Tm) (E:Env) (h:Qa):Prop:=∃ (i j:Nat) (s:SV) (F:Bool) (r:List Tm),i≤p.length∧j≤q.length∧Cb h0 h q3 q4 q5 q6 q7 q8 sp sq s F r∧Mg p q i j F r ∧
  E.keep [3,4,6,7,8,9,10,11]=[(3,some (.sc (.ptr q3 0))),(4,some (.sc (.ptr q4 0))),(6,some (.sc (.ptr q6 0))),(7,some (.sc (.ptr q7 0))),(8,some (.sc (.ptr q8 0))),(9,some (.sc (.fn 83 [(q5,0),(q8,0),(q7,0)]))),(10,some (.sc (.int .i64 (i:Nat)))),(11,some (.sc (.int .i64 (j:Nat))))]
def R51 (h0:Qa) (q3 q4 q5 q6 q7 q8:Nat) (sp sq:SV) (p q:List Tm) (ex:Ex) (E:Env) (h:Qa):Prop:=ex=.ex 0∧∃ (s:SV) (F:Bool),Cb h0 h q3 q4 q5 q6 q7 q8 sp sq s F (mA p q)∧(Qai (mA p q)↔F=true)∧∃ a b c d e f,
  E=[(3,a),(4,b),(6,some (.sc (.ptr q6 0))),(7,some (.sc (.ptr q7 0))),(8,some (.sc (.ptr q8 0))),(9,c),(10,d),(11,e),(40,f)]
def qC (p q:List Tm) (E:Env) (_:Qa):Nat:=match (E.keep [3,4,6,7,8,9,10,11]).get 10,(E.keep [3,4,6,7,8,9,10,11]).get 11 with | some (.sc (.int .i64 i)),some (.sc (.int .i64 j))=>p.length+q.length-(i+j).toNat | _,_=>0
end Go.Proofs.YtofknpknogfijaaGreatDoor


/- Sums: the loop,and Add. -/
namespace Go.Proofs.YtofknpknogfijaaGreatDoor
open Go.Ab
set_option linter.unusedVariables false
set_option linter.unusedSimpArgs false
set_option maxRecDepth 20000
set_option maxHeartbeats 8000000
attribute [local irreducible] Qi wA Xk Xj Qz Qo QS QV
set_option linter.unusedSectionVars false
variable [HB]
open Classical in
noncomputable def addP (p q:Pol):Pol:=if p.big=true∨q.big=true then Jw else if Qai (mA p.ts q.ts) then ⟨false,mA p.ts q.ts⟩ else Jw
end Go.Proofs.YtofknpknogfijaaGreatDoor


/- Coefficients: contracts. -/
namespace Go.Proofs.YtofknpknogfijaaGreatDoor
open Go.Ab
set_option linter.unusedVariables false
set_option linter.unusedSimpArgs false
set_option maxRecDepth 20000
set_option maxHeartbeats 8000000
attribute [local irreducible] Qi wA Xk Xj Qz Qo QS QV
set_option linter.unusedSectionVars false
variable [HB]
theorem Qcc (h0:Qa) (a:Int):∃ r h',Cal FT HKt 117 [.sc (.int .i64 a)] h0 r h'∧r=.sc (.bool false)∧h'=h0:=by
  refine Cal.of (F:=a117) rfl rfl rfl ?_
  repeat' (first | refine Qh ?_ | refine Qb ?_ | refine Qs ?_ | refine Qf ?_ | ((refine Qe ?_);refine Qr rfl ?_) | ((refine Qc ?_);first | refine Qp rfl ?_ | refine XJ rfl rfl (by omega) ?_))
  exact ⟨.inr rfl,rfl,rfl⟩
def Jv (a b:Int):Int:=if a < b then -1 else if b < a then 1 else 0
theorem Qjs (h0:Qa) (a b:Int):∃ r h',Cal FT HKt 91 [.sc (.int .i64 a),.sc (.int .i64 b)] h0 r h'∧r=.sc (.int .i64 (Jv a b))∧h'=h0:=by
  refine Cal.of (F:=a91) rfl rfl rfl ?_
  have k84a:=fun H=>Qcc H a
  have k84b:=fun H=>Qcc H b
  by_cases h1:a < b
  · have e:Jv a b = -1:=by unfold Jv;rw [if_pos h1]
    rw [e]
    repeat' (first | refine Qh ?_ | refine Qb ?_ | refine QF ?_ | refine Qn ?_ | refine Qs ?_ | refine Qf ?_ | ((refine Qg ?_);first | refine Qk rfl ?_ | refine Qj rfl ?_) | ((refine Qe ?_);first | refine Qr rfl ?_ | refine Qv rfl rfl ?_ | refine Qy rfl rfl rfl ?_ | refine QQ rfl rfl rfl rfl ?_) | ((refine Qc ?_);first | (refine Qm rfl (k84a _) ?_;rintro r _ ⟨rfl,rfl⟩) | (refine Qm rfl (k84b _) ?_;rintro r _ ⟨rfl,rfl⟩) | refine Qp rfl ?_ | refine Qx rfl rfl (by omega) ?_))
    exact ⟨.inr rfl,rfl,rfl⟩
  · by_cases h2:b < a
    · have e:Jv a b=1:=by unfold Jv;rw [if_neg h1,if_pos h2]
      rw [e]
      repeat' (first | refine Qh ?_ | refine Qb ?_ | refine QF ?_ | refine Qn ?_ | refine Qs ?_ | refine Qf ?_ | ((refine Qg ?_);first | refine Qk rfl ?_ | refine Qj rfl ?_) | ((refine Qe ?_);first | refine Qr rfl ?_ | refine Qv rfl rfl ?_ | refine Qy rfl rfl rfl ?_ | refine QQ rfl rfl rfl rfl ?_) | ((refine Qc ?_);first | (refine Qm rfl (k84a _) ?_;rintro r _ ⟨rfl,rfl⟩) | (refine Qm rfl (k84b _) ?_;rintro r _ ⟨rfl,rfl⟩) | refine Qp rfl ?_ | refine QH rfl rfl (by omega) ?_ | refine XA rfl rfl (by omega) ?_))
      exact ⟨.inr rfl,rfl,rfl⟩
    · have e:Jv a b=0:=by unfold Jv;rw [if_neg h1,if_neg h2]
      rw [e]
      repeat' (first | refine Qh ?_ | refine Qb ?_ | refine Qn ?_ | refine Qs ?_ | refine Qf ?_ | ((refine Qg ?_);refine Qj rfl ?_) | ((refine Qe ?_);first | refine Qr rfl ?_ | refine Qv rfl rfl ?_ | refine Qy rfl rfl rfl ?_ | refine QQ rfl rfl rfl rfl ?_) | ((refine Qc ?_);first | (refine Qm rfl (k84a _) ?_;rintro r _ ⟨rfl,rfl⟩) | (refine Qm rfl (k84b _) ?_;rintro r _ ⟨rfl,rfl⟩) | refine Qp rfl ?_ | refine QH rfl rfl (by omega) ?_ | refine Xq rfl rfl (by omega) ?_))
      exact ⟨.inr rfl,rfl,rfl⟩
theorem QeQ (h0:Qa) (a c b:Int):∃ r h',Cal FT HKt 90 ([.agg [.int .i64 a,.int .i64 c],.sc (.int .i64 b)]++([]:List (Nat × Nat)).map fun p=>AV.sc (.ptr p.1 p.2)) h0 r h'∧Ext h0 h'∧r=.sc (.int .i64 (Jv a b)):=by
  refine Cal.of (F:=a90) rfl rfl rfl ?_
  have k63:=fun H=>Qjs H a b
  repeat' (first | refine Qh ?_ | refine Qb ?_ | refine Qs ?_ | refine Qf ?_ | ((refine Qe ?_);first | refine Qr rfl ?_ | refine Qv rfl rfl ?_) | ((refine Qc ?_);first | (refine QR rfl ?_;intro h1 e1 c1) | refine Q4 rfl c1 ?_ | (refine Qm rfl (k63 _) ?_;rintro r _ ⟨rfl,rfl⟩) | refine Qp rfl ?_ | refine XF rfl rfl ?_))
  exact ⟨.inr rfl,e1,rfl⟩
def I89 (h0:Qa) (s:SV) (ts:List Tm) (tg:Int) (E:Env) (h:Qa):Prop:=Ext h0 h∧∃ i j:Nat,i≤j∧j≤ts.length∧(∀ k,k < i→∀ t,ts[k]?=some t→t.1 < tg)∧(∀ k,j≤k→∀ t,ts[k]?=some t→tg≤t.1) ∧
  E.keep [0,1,2,8,9,10]=[(0,some (.sc s)),(1,some (.sc (.int .i64 tg))),(2,some (.sc (.fn 90 []))),(8,some (.sc (.int .i64 (ts.length:Nat)))),(9,some (.sc (.int .i64 (i:Nat)))),(10,some (.sc (.int .i64 (j:Nat))))]
def R89 (h0:Qa) (s:SV) (ts:List Tm) (tg:Int) (ex:Ex) (E:Env) (h:Qa):Prop:=Ext h0 h∧ex=.ex 0∧∃ i:Nat,i≤ts.length∧(∀ k,k < i→∀ t,ts[k]?=some t→t.1 < tg)∧(∀ k,i≤k→∀ t,ts[k]?=some t→tg≤t.1)∧∃ a b,
  E=[(0,some (.sc s)),(1,some (.sc (.int .i64 tg))),(2,some (.sc (.fn 90 []))),(8,some (.sc (.int .i64 (ts.length:Nat)))),(9,some (.sc (.int .i64 (i:Nat)))),(10,a),(17,b)]
def qS (E:Env) (_:Qa):Nat:=match (E.keep [0,1,2,8,9,10]).get 9,(E.keep [0,1,2,8,9,10]).get 10 with | some (.sc (.int .i64 i)),some (.sc (.int .i64 j))=>(j-i).toNat | _,_=>0
theorem Qbe {ts:List Tm} (hc:Can ts) {a b:Nat} {t u:Tm} (ha:ts[a]?=some t) (hb:ts[b]?=some u) (h:a≤b):t.1≤u.1:=by
  by_cases e:a=b
  · subst e;rw [ha] at hb;cases hb;exact Int.le_refl _
  · obtain ⟨h1,rfl⟩:=List.getElem?_eq_some_iff.1 ha
    obtain ⟨h2,rfl⟩:=List.getElem?_eq_some_iff.1 hb
    have:=(List.pairwise_iff_getElem.1 hc.asc) a b h1 h2 (by omega)
    omega
theorem Qgb (h0:Qa) (s:SV) (ts:List Tm) (tg:Int) (hs:IsD h0 s (tms ts)) (hc:Can ts) (hl:ts.length≤3000000) (E:Env) (h:Qa) (hI:I89 h0 s ts tg E h) :
    wA FT HKt QhH (E.keep [0,1,2,8,9,10]) h (Qz (I89 h0 s ts tg) qS (qS E h) (R89 h0 s ts tg)):=by
  obtain ⟨he,i,j,hij,hj,hlo,hhi,hE⟩:=hI
  have hm:qS E h=j-i:=by unfold qS;rw [hE];show ((j:Int)-(i:Int)).toNat=_;omega
  rw [hm,hE]
  by_cases hlt:i < j
  · obtain ⟨m,hmm⟩:∃ m:Nat,m=(i+j) / 2:=⟨_,rfl⟩
    have e1:((i:Int)+(j:Int)) / ((2 ^ 1:Nat):Int)=(m:Int):=by rw [hmm];simp
    obtain ⟨t,ht⟩:∃ t,ts[m]?=some t:=⟨_,List.getElem?_eq_getElem (by omega)⟩
    obtain ⟨id,off,cap,e2,r0⟩:=hs.at (i:=m) (p:=tmP t) (by simp [ht])
    rw [XD] at e2
    subst e2
    have r1:=QO he r0
    have k62:=QeQ h t.1 t.2 tg
    by_cases hv:t.1 < tg
    · have e:Jv t.1 tg = -1:=by unfold Jv;rw [if_pos hv]
      rw [e] at k62
      repeat' (first | refine Qh ?_ | refine Qb ?_ | refine Qt ?_ | refine QC ?_ | refine Qn ?_ | refine Qf ?_ | ((refine Qg ?_);refine Qk rfl ?_) | ((refine Qe ?_);first | refine QM rfl rfl rfl rfl rfl rfl ?_ | refine Q7 rfl rfl rfl rfl rfl rfl rfl ?_ | refine Q5 rfl rfl rfl rfl rfl rfl rfl rfl ?_) | ((refine Qc ?_);first | (refine zT rfl (by omega) ?_) | (refine XL (q:=1) rfl rfl rfl (by omega) ?_;rw [e1]) | refine QD (esz:=2) rfl rfl (by omega) ?_ | refine Yi rfl r1 ?_ | (refine ZB rfl rfl k62 ?_;rintro r h2 ⟨e2,rfl⟩) | refine Qp rfl ?_ | refine QK rfl rfl (by omega) ?_ | refine XM rfl (by omega) ?_ | refine Qx rfl rfl (by omega) ?_))
      refine Yd ⟨he.trans e2,m+1,j,by omega,hj,fun k hk u hu=>?_,hhi,rfl⟩ (by unfold qS;show ((j:Int)-((m:Nat)+1)).toNat < j-i;omega)
      have:=Qbe hc hu ht (by omega)
      omega
    · have e:¬ Jv t.1 tg < 0:=by unfold Jv;rw [if_neg hv];split <;> omega
      generalize Jv t.1 tg=C at *
      repeat' (first | refine Qh ?_ | refine Qb ?_ | refine Qt ?_ | refine QC ?_ | refine Qn ?_ | refine Qf ?_ | ((refine Qg ?_);first | refine Qk rfl ?_ | refine Qj rfl ?_) | ((refine Qe ?_);first | refine QM rfl rfl rfl rfl rfl rfl ?_ | refine Q7 rfl rfl rfl rfl rfl rfl rfl ?_ | refine Q5 rfl rfl rfl rfl rfl rfl rfl rfl ?_) | ((refine Qc ?_);first | (refine zT rfl (by omega) ?_) | (refine XL (q:=1) rfl rfl rfl (by omega) ?_;rw [e1]) | refine QD (esz:=2) rfl rfl (by omega) ?_ | refine Yi rfl r1 ?_ | (refine ZB rfl rfl k62 ?_;rintro r h2 ⟨e2,rfl⟩) | refine Qp rfl ?_ | refine QK rfl rfl (by omega) ?_ | refine XM rfl (by omega) ?_ | refine Qx rfl rfl (by omega) ?_ | refine QH rfl rfl (by omega) ?_))
      refine Yd ⟨he.trans e2,i,m,by omega,by omega,hlo,fun k hk u hu=>?_,rfl⟩ (by unfold qS;show ((m:Int)-(i:Int)).toNat < j-i;omega)
      have:=Qbe hc ht hu hk
      omega
  · have:j=i:=by omega
    subst this
    repeat' (first | refine Qh ?_ | refine Qb ?_ | refine QP ?_ | refine QL ?_ | refine Qf ?_ | ((refine Qg ?_);refine Qj rfl ?_) | ((refine Qe ?_);refine Q7 rfl rfl rfl rfl rfl rfl rfl ?_) | ((refine Qc ?_);first | refine Qp rfl ?_ | refine QH rfl rfl (by omega) ?_))
    exact Yo ⟨he,rfl,j,hj,hlo,hhi,_,_,rfl⟩
theorem Qjt (h0:Qa) (s:SV) (ts:List Tm) (tg:Int) (hs:IsD h0 s (tms ts)) (hc:Can ts) (hl:ts.length≤3000000) :
    ∃ r h',Cal FT HKt 89 [.sc s,.sc (.int .i64 tg),.sc (.fn 90 [])] h0 r h'∧Ext h0 h'∧∃ (i:Nat) (b:Bool),r=.tup [.sc (.int .i64 (i:Nat)),.sc (.bool b)]∧((b=true∧∃ t,ts[i]?=some t∧t.1=tg)∨(b=false∧cf ts tg=0)):=by
  refine Cal.of (F:=a89) rfl rfl rfl ?_
  have ls:=hs.len
  rw [XD] at ls
  repeat' (first | refine Qh ?_ | refine Qb ?_ | refine Qt ?_ | refine Qf ?_ | ((refine Qe ?_);first | refine Qy rfl rfl rfl ?_ | refine QQ rfl rfl rfl rfl ?_ | refine QM rfl rfl rfl rfl rfl rfl ?_) | ((refine Qc ?_);first | refine QA rfl ls ?_ | refine Qp rfl ?_))
  refine Z9 (I89 h0 s ts tg) qS (R89 h0 s ts tg) ⟨Ext.refl _,0,ts.length,Nat.zero_le _,Nat.le_refl _,fun k hk=>absurd hk (Nat.not_lt_zero _),fun k hk t ht=>by have:=(List.getElem?_eq_some_iff.1 ht).1;omega,rfl⟩ (Qgb h0 s ts tg hs hc hl) ?_
  rintro ex E' h1 ⟨e1,rfl,i,hi,hlo,hhi,_,_,rfl⟩
  by_cases hlt:i < ts.length
  · obtain ⟨t,ht⟩:∃ t,ts[i]?=some t:=⟨_,List.getElem?_eq_getElem hlt⟩
    have hge:=hhi i (Nat.le_refl _) t ht
    obtain ⟨id,off,cap,e2,r0⟩:=hs.at (i:=i) (p:=tmP t) (by simp [ht])
    rw [XD] at e2
    subst e2
    have r1:=QO e1 r0
    have k62:=QeQ h1 t.1 t.2 tg
    by_cases hv:t.1=tg
    · have e:Jv t.1 tg=0:=by unfold Jv;rw [if_neg (by omega),if_neg (by omega)]
      rw [e] at k62
      repeat' (first | refine Qh ?_ | refine Qb ?_ | refine QE ?_ | refine Qs ?_ | refine Qf ?_ | ((refine Qe ?_);refine Qv rfl rfl ?_) | ((refine Qc ?_);first | refine QD (esz:=2) rfl rfl (by omega) ?_ | refine Yi rfl r1 ?_ | (refine ZB rfl rfl k62 ?_;rintro r h2 ⟨e2,rfl⟩) | refine QY rfl ?_ | refine Qp rfl ?_ | refine Q1 rfl rfl ?_ | refine Qx rfl rfl (by omega) ?_ | refine Xw rfl rfl (by omega) ?_))
      exact ⟨.inr rfl,e1.trans e2,i,true,rfl,.inl ⟨rfl,t,ht,hv⟩⟩
    · have e:Jv t.1 tg≠0:=by unfold Jv;rw [if_neg (by omega),if_pos (by omega)];omega
      generalize Jv t.1 tg=C at *
      repeat' (first | refine Qh ?_ | refine Qb ?_ | refine QE ?_ | refine Qs ?_ | refine Qf ?_ | ((refine Qe ?_);refine Qv rfl rfl ?_) | ((refine Qc ?_);first | refine QD (esz:=2) rfl rfl (by omega) ?_ | refine Yi rfl r1 ?_ | (refine ZB rfl rfl k62 ?_;rintro r h2 ⟨e2,rfl⟩) | refine QY rfl ?_ | refine Qp rfl ?_ | refine Q1 rfl rfl ?_ | refine Qx rfl rfl (by omega) ?_ | refine Xa rfl rfl (by omega) ?_))
      refine ⟨.inr rfl,e1.trans e2,i,false,rfl,.inr ⟨rfl,ye fun u hu he=>?_⟩⟩
      obtain ⟨k,hk⟩:=List.getElem?_of_mem hu
      by_cases hki:k < i
      · have:=hlo k hki u hk;omega
      · have:=Qbe hc ht hk (by omega);omega
  · repeat' (first | refine Qh ?_ | refine Qb ?_ | refine QE ?_ | refine Qs ?_ | refine Qf ?_ | ((refine Qe ?_);refine Qv rfl rfl ?_) | ((refine Qc ?_);first | refine Xn rfl ?_ | refine Qp rfl ?_ | refine QT rfl rfl ?_ | refine QH rfl rfl (by omega) ?_))
    refine ⟨.inr rfl,e1,i,false,rfl,.inr ⟨rfl,ye fun u hu he=>?_⟩⟩
    obtain ⟨k,hk⟩:=List.getElem?_of_mem hu
    have hk2:=(List.getElem?_eq_some_iff.1 hk).1
    have:=hlo k (by omega) u hk;omega
theorem Qjy (h0:Qa) (b:Bool) (s:SV) (ts:List Tm) (tg:Int) (hs:IsD h0 s (tms ts)) (hc:Can ts) (hl:ts.length≤3000000) :
    ∃ r h',Cal FT HKt 62 [.agg [.bool b,s],.sc (.int .i64 tg)] h0 r h'∧Ext h0 h'∧r=.sc (.int .i64 (cf ts tg)):=by
  refine Cal.of (F:=a62) rfl rfl rfl ?_
  have k61:=fun H (e:Ext h0 H)=>Qjt H s ts tg (hs.ext e) hc hl
  repeat' (first | refine Qh ?_ | refine Qb ?_ | refine Qf ?_ | ((refine Qe ?_);first | refine Qv rfl rfl ?_ | refine Qy rfl rfl rfl ?_) | ((refine Qc ?_);first | (refine QR rfl ?_;intro h1 e1 c1) | refine Xr rfl ?_ | refine Q0 rfl c1 ?_ | (refine Qm rfl (k61 h1 e1) ?_;rintro r h2 ⟨e2,i,bb,rfl,hor⟩;have c2:=c1.ext e2) | refine Qp rfl ?_ | refine XF rfl rfl ?_))
  rcases hor with ⟨rfl,t,ht,he⟩ | ⟨rfl,h0⟩
  · obtain ⟨id,off,cap,e3,r0⟩:=hs.at (i:=i) (p:=tmP t) (by simp [ht])
    rw [XD] at e3
    subst e3
    have hlt:=(List.getElem?_eq_some_iff.1 ht).1
    have r2:=QO (e1.trans e2) (rd1 r0).2
    have e:cf ts tg=t.2:=by rw [← he];exact JP hc (List.mem_of_getElem? ht)
    rw [e]
    repeat' (first | refine Qh ?_ | refine Qb ?_ | refine Qn ?_ | refine Qs ?_ | refine Qf ?_ | ((refine Qg ?_);refine Qj rfl ?_) | ((refine Qe ?_);refine Qr rfl ?_) | ((refine Qc ?_);first | refine Xr rfl ?_ | refine Q0 rfl c2 ?_ | refine QD (esz:=2) rfl rfl (by omega) ?_ | refine Xx rfl r2 ?_ | refine Qp rfl ?_))
    exact ⟨.inr rfl,e1.trans e2,rfl⟩
  · rw [h0]
    repeat' (first | refine Qh ?_ | refine Qb ?_ | refine QF ?_ | refine Qs ?_ | refine Qf ?_ | ((refine Qg ?_);refine Qk rfl ?_) | ((refine Qe ?_);refine Qr rfl ?_) | ((refine Qc ?_);refine Qp rfl ?_))
    exact ⟨.inr rfl,e1.trans e2,rfl⟩
end Go.Proofs.YtofknpknogfijaaGreatDoor



namespace Go.Proofs.YtofknpknogfijaaGreatDoor
open Go.Ab
set_option linter.unusedVariables false
set_option linter.unusedSimpArgs false
set_option maxRecDepth 20000
set_option maxHeartbeats 8000000
attribute [local irreducible] Qi wA Xk Xj Qz Qo QS QV
set_option linter.unusedSectionVars false
variable [HB]
def Wop (gf:FuncId) (w:Int→Int→Int):Prop:=∀ (h0:Qa) (a b:Int),a.natAbs≤cM→b.natAbs≤cM→(∃ r h',Cal FT HKt gf ([.sc (.int .i64 a),.sc (.int .i64 b)]++([]:List (Nat × Nat)).map fun p=>AV.sc (.ptr p.1 p.2)) h0 r h'∧r=.sc (.int .i64 (w a b))∧h'=h0)∧(w a b).natAbs≤2251799813685248
def mG (w:Int→Int→Int):List Tm→List Tm→List Tm:=mrg w
structure CbG (gf:FuncId) (h0 h:Qa) (q3 q4 q5 q6 q7 q8:Nat) (sp sq s:SV) (F:Bool) (r:List Tm):Prop where
  e:Ext h0 h
  c3:Cel h q3 (.bool false) sp
  c4:Cel h q4 (.bool false) sq
  c5:Cel1 h q5 (.fn gf [])
  c6:Cel h q6 (.bool false) .nilS
  c7:Cel h q7 (.bool false) s
  c8:Cel1 h q8 (.bool F)
  o:OwnD h0 h s (tms r)
  ord:h0.length≤q3∧q3 < q4∧q4 < q5∧q5 < q6∧q6 < q7∧q7 < q8
structure MgG (w:Int→Int→Int) (p q:List Tm) (i j:Nat) (F:Bool) (r:List Tm):Prop where
  eq:mG w p q=r++mG w (p.drop i) (q.drop j)
  ft:Qai (mG w p q)↔(F=true∧Qai (mG w (p.drop i) (q.drop j)))
  ln:r.length≤i+j
def J53 (w:Int→Int→Int) (gf:FuncId) (h0:Qa) (q3 q4 q5 q6 q7 q8:Nat) (sp sq:SV) (p q:List Tm) (E:Env) (h:Qa):Prop:=∃ (i j:Nat) (s:SV) (F:Bool) (r:List Tm),i≤p.length∧j≤q.length∧CbG gf h0 h q3 q4 q5 q6 q7 q8 sp sq s F r∧MgG w p q i j F r ∧
  E.keep [3,4,6,7,8,9,10,11]=[(3,some (.sc (.ptr q3 0))),(4,some (.sc (.ptr q4 0))),(6,some (.sc (.ptr q6 0))),(7,some (.sc (.ptr q7 0))),(8,some (.sc (.ptr q8 0))),(9,some (.sc (.fn 83 [(q5,0),(q8,0),(q7,0)]))),(10,some (.sc (.int .i64 (i:Nat)))),(11,some (.sc (.int .i64 (j:Nat))))]
def S53 (w:Int→Int→Int) (gf:FuncId) (h0:Qa) (q3 q4 q5 q6 q7 q8:Nat) (sp sq:SV) (p q:List Tm) (ex:Ex) (E:Env) (h:Qa):Prop:=ex=.ex 0∧∃ (s:SV) (F:Bool),CbG gf h0 h q3 q4 q5 q6 q7 q8 sp sq s F (mG w p q)∧(Qai (mG w p q)↔F=true)∧∃ a b c d e f,
  E=[(3,a),(4,b),(6,some (.sc (.ptr q6 0))),(7,some (.sc (.ptr q7 0))),(8,some (.sc (.ptr q8 0))),(9,c),(10,d),(11,e),(40,f)]
end Go.Proofs.YtofknpknogfijaaGreatDoor


namespace Go.Proofs.YtofknpknogfijaaGreatDoor
open Go.Ab
set_option linter.unusedVariables false
set_option linter.unusedSimpArgs false
set_option linter.unusedSectionVars false
variable [HB]
def mvL (f:Int→Int) (up:Bool) (l:List Tm):List Tm:=if up=true then l.map (fun t=>(f t.1,t.2)) else (l.map fun t=>(f t.1,t.2)).reverse
def Mvf (f:Int→Int) (up:Bool):Prop:=∀ a b,a < b→if up=true then f a < f b else f b < f a
theorem Mvf.inj {f:Int→Int} {up:Bool} (m:Mvf f up) {a b:Int} (h:f a=f b):a=b:=by
  rcases Int.lt_trichotomy a b with h1 | h1 | h1
  · have:=m a b h1
    cases up <;> simp at this <;> omega
  · exact h1
  · have:=m b a h1
    cases up <;> simp at this <;> omega
def movP (f:Int→Int) (up:Bool) (p:Pol):Pol:=open Classical in
  if p.big=true then p else if ∀ t∈p.ts,(f t.1).natAbs≤eM then ⟨false,mvL f up p.ts⟩ else Jw
def Bd (k:Nat) (l:List Tm):Prop:=∀ t∈l,t.1.natAbs≤k
theorem Bd.lh {k:Nat} {l:List Tm} (h:Bd k l) (h0:l≠[]):(lo0 l).natAbs≤k∧(hi0 l).natAbs≤k:=by
  obtain ⟨t,a,b⟩:=JW h0
  obtain ⟨u,c,d⟩:=JX h0
  rw [← b,← d]
  exact ⟨h t a,h u c⟩
end Go.Proofs.YtofknpknogfijaaGreatDoor


namespace Go.Proofs.YtofknpknogfijaaGreatDoor
open Go.Ab
set_option linter.unusedVariables false
set_option linter.unusedSimpArgs false
set_option maxRecDepth 20000
set_option maxHeartbeats 8000000
attribute [local irreducible] Qi wA Xk Xj Qz Qo QS QV
set_option linter.unusedSectionVars false
variable [HB]
open Classical in
noncomputable def QhD (w:Int→Int→Int) (p q:Pol):Pol:=if p.big=true∨q.big=true then Jw else if Qai (mG w p.ts q.ts) then ⟨false,mG w p.ts q.ts⟩ else Jw
end Go.Proofs.YtofknpknogfijaaGreatDoor




namespace Go.Proofs.YtofknpknogfijaaGreatDoor
open Go.Ab
set_option linter.unusedVariables false
set_option linter.unusedSimpArgs false
set_option maxRecDepth 20000
set_option maxHeartbeats 8000000
attribute [local irreducible] Qi wA Xk Xj Qz Qo QS QV
set_option linter.unusedSectionVars false
variable [HB]
def wSub (a b:Int):Int:=a-b
def wNeg (_ b:Int):Int := -b
noncomputable def subP (p q:Pol):Pol:=QhD wSub p q
noncomputable def negP (q:Pol):Pol:=QhD wNeg Qbl q
theorem Qi0 {p q:Pol} (kp:Pok p) (kq:Pok q) (bp:p.big=false) (bq:q.big=false) (hp:Bd 524288 p.ts) (hq:Bd 524288 q.ts) :
    ∃ L,Can L∧(∀ g,S g L=S2 g p.ts q.ts)∧(JE p q=open Classical in if ∀ t∈L,t.2.natAbs≤cM then ⟨false,L⟩ else Jw):=by
  by_cases h0:p.ts=[]∨q.ts=[]
  · refine ⟨[],.nil,fun g=>?_,?_⟩
    · rcases h0 with h | h
      · rw [h];rfl
      · rw [h]
        unfold S2
        exact (yG _).symm
    · unfold JE
      rw [if_neg (by simp [bp,bq]),if_pos h0,if_pos (by simp)]
  · have h1:p.ts≠[]:=fun h=>h0 (.inl h)
    have h2:q.ts≠[]:=fun h=>h0 (.inr h)
    obtain ⟨a,b⟩:=hp.lh h1
    obtain ⟨c,d⟩:=hq.lh h2
    refine ⟨QaU p.ts q.ts (qO p.ts q.ts) (Z4 p.ts q.ts),yu _ _ _,fun g=>Qkk (QbQ kp.can kq.can) g,?_⟩
    unfold JE
    rw [if_neg (by simp [bp,bq]),if_neg h0,if_neg (by unfold qO;omega)]
theorem Bd.mono {j k:Nat} {l:List Tm} (h:Bd j l) (hk:j≤k):Bd k l:=fun t ht=>Nat.le_trans (h t ht) hk
end Go.Proofs.YtofknpknogfijaaGreatDoor


namespace Go.Proofs.YtofknpknogfijaaGreatDoor
set_option linter.unusedVariables false
set_option linter.unusedSectionVars false
variable [HB]
def Asc (l:List Tm):Prop:=l.Pairwise fun a b=>a.1 < b.1
end Go.Proofs.YtofknpknogfijaaGreatDoor


namespace Go.Proofs.YtofknpknogfijaaGreatDoor
set_option linter.unusedVariables false
set_option linter.unusedSectionVars false
variable [HB]
theorem lo0_ng (l:List Tm):lo0 (l.map ngT)=lo0 l:=by cases l <;> rfl
def hd0 (l:List Tm):Int:=match l with
  | []=>0
  | t::_=>t.2
def shT (l:List Tm):List Tm:=l.map fun t=>(t.1-lo0 l,t.2)
def sgT (l:List Tm):List Tm:=if hd0 l < 0 then l.map ngT else l
def nrmP (p:Pol):Pol:=if p.big=true∨p.ts=[] then p else ⟨false,shT (sgT p.ts)⟩
def Sml (p:Pol):Prop:=∀ t∈p.ts,t.1.natAbs≤300
noncomputable def rfN (p:Pol):Pol:=if p.big=true∨p.ts=[] then p else if hd0 p.ts < 0 then ngP (colP (U6 p.ts [(-lo0 p.ts,1)] [])) else colP (U6 p.ts [(-lo0 p.ts,1)] [])
end Go.Proofs.YtofknpknogfijaaGreatDoor





namespace Go.Proofs.YtofknpknogfijaaGreatDoor
open Go.Ab
set_option linter.unusedVariables false
set_option linter.unusedSimpArgs false
set_option maxRecDepth 20000
set_option maxHeartbeats 4000000
attribute [local irreducible] Qi wA Xk Xj Qz Qo QS QV
set_option linter.unusedSectionVars false
variable [HB]
abbrev zP2:P2:=(.nilS,.nilS)
def revK (ps:List P2) (k:Nat):List P2:=(List.range ps.length).map fun t=>if t < k∨ps.length≤t+k then ps.getD (ps.length-1-t) zP2 else ps.getD t zP2
def I92 (h0 hb:Qa) (s:SV) (ps:List P2) (E:Env) (h:Qa):Prop:=∃ (k:Nat) (j:Int),2*k≤ps.length∧j=(ps.length:Int)-1-k∧OwnD h0 h s (revK ps k)∧Ext h0 h∧(∀ (i:Nat) (b:Blk),hb[i]?=some b→XT s i→h[i]?=some b) ∧
  E.keep [0,2,3]=[(0,some (.sc s)),(2,some (.sc (.int .i64 (k:Nat)))),(3,some (.sc (.int .i64 j)))]
def R92 (h0 hb:Qa) (s:SV) (ps:List P2) (ex:Ex) (E:Env) (h:Qa):Prop:=ex=.ex 0∧OwnD h0 h s ps.reverse∧Ext h0 h∧(∀ (i:Nat) (b:Blk),hb[i]?=some b→XT s i→h[i]?=some b)
end Go.Proofs.YtofknpknogfijaaGreatDoor


namespace Go.Proofs.YtofknpknogfijaaGreatDoor
open Go.Ab
set_option linter.unusedVariables false
set_option linter.unusedSimpArgs false
set_option maxRecDepth 20000
set_option maxHeartbeats 8000000
attribute [local irreducible] Qi wA Xk Xj Qz Qo QS QV
set_option linter.unusedSectionVars false
variable [HB]
def Mover (h0:Qa) (g:FuncId) (caps:List (Nat × Nat)) (f:Int→Int):Prop:=∀ H,Ext h0 H→∀ e:Int,e.natAbs≤eM→∃ r h',Cal FT HKt g ([.sc (.int .i64 e)]++caps.map fun p=>AV.sc (.ptr p.1 p.2)) H r h'∧r=.sc (.int .i64 (f e))∧h'=H
abbrev mvT (f:Int→Int) (l:List Tm):List Tm:=l.map fun t=>(f t.1,t.2)
structure St63 (h0 h:Qa) (q4 q5:Nat) (s:SV) (r:List Tm):Prop where
  e:Ext h0 h
  c4:Cel h q4 (.bool false) .nilS
  c5:Cel h q5 (.bool false) s
  o:OwnD h0 h s (tms r)
def I63 (h0:Qa) (q4 q5:Nat) (fn sp:SV) (f:Int→Int) (ts:List Tm) (E:Env) (h:Qa):Prop:=∃ (i:Nat) (s:SV),i≤ts.length∧(∀ t∈ts.take i,(f t.1).natAbs≤eM)∧St63 h0 h q4 q5 s (mvT f (ts.take i)) ∧
  E.keep [1,4,5,18,19,20]=[(1,some (.sc fn)),(4,some (.sc (.ptr q4 0))),(5,some (.sc (.ptr q5 0))),(18,some (.sc sp)),(19,some (.sc (.int .i64 (ts.length:Nat)))),(20,some (.sc (.int .i64 (i:Nat))))]
def R63 (h0:Qa) (q4 q5:Nat) (f:Int→Int) (ts:List Tm) (ex:Ex) (E:Env) (h:Qa):Prop :=
  (ex=.ex 0∧∃ s,(∀ t∈ts,(f t.1).natAbs≤eM)∧St63 h0 h q4 q5 s (mvT f ts)∧∃ a b c d e,E=[(1,a),(4,some (.sc (.ptr q4 0))),(5,some (.sc (.ptr q5 0))),(18,b),(19,c),(20,d),(21,e)]) ∨
  (ex=.rt∧¬ (∀ t∈ts,(f t.1).natAbs≤eM)∧Ext h0 h∧Cel h q4 (.bool true) .nilS∧E=[(4,some (.sc (.ptr q4 0)))])
end Go.Proofs.YtofknpknogfijaaGreatDoor



namespace Go.Proofs.YtofknpknogfijaaGreatDoor
open Go.Ab
set_option linter.unusedVariables false
set_option linter.unusedSimpArgs false
set_option maxRecDepth 20000
set_option maxHeartbeats 4000000
attribute [local irreducible] Qi wA Xk Xj Qz Qo QS QV
set_option linter.unusedSectionVars false
variable [HB]
end Go.Proofs.YtofknpknogfijaaGreatDoor


namespace Go.Proofs.YtofknpknogfijaaGreatDoor
open Go.Ab
set_option linter.unusedVariables false
set_option linter.unusedSimpArgs false
set_option maxRecDepth 20000
set_option maxHeartbeats 4000000
attribute [local irreducible] Qi wA Xk Xj Qz Qo QS QV
set_option linter.unusedSectionVars false
variable [HB]
def QeU (nm:List UInt8) (c e:Int):List UInt8:=(if c≠1∨e=0 then Lib.itoa c else [])++((if e≠0 then nm else [])++(if e≠0∧e≠1 then [94]++Lib.itoa e else []))
def tTx (nm:List UInt8) (i:Nat) (t:Tm):List UInt8:=if t.2 < 0 then [45]++QeU nm (-t.2) t.1 else if 0 < i then [43]++QeU nm t.2 t.1 else QeU nm t.2 t.1
def Qcr (nm:List UInt8) (ts:List Tm):Nat→List UInt8
  | 0=>[]
  | i+1=>Qcr nm ts i++tTx nm i (ts.getD i (0,0))
def txtP (nm:List UInt8) (p:Pol):List UInt8:=if p.big then [98,105,103] else if p.ts=[] then [48] else Qcr nm p.ts p.ts.length
end Go.Proofs.YtofknpknogfijaaGreatDoor



namespace Go.Proofs.YtofknpknogfijaaGreatDoor
open Go.Ab
set_option linter.unusedVariables false
set_option linter.unusedSimpArgs false
set_option maxRecDepth 20000
set_option maxHeartbeats 4000000
attribute [local irreducible] Qi wA Xk Xj Qz Qo QS QV
set_option linter.unusedSectionVars false
variable [HB]
def I15 (hb:Qa) (B:Nat) (nm:List UInt8) (s:SV) (ts:List Tm) (E:Env) (h:Qa):Prop:=∃ i:Nat,i≤ts.length∧BL hb h B (Qcr nm ts i) ∧
  E.keep [1,5,18,19,20]=[(1,some (.sc (tb nm))),(5,some (.sc (.ptr B 0))),(18,some (.sc s)),(19,some (.sc (.int .i64 (ts.length:Nat)))),(20,some (.sc (.int .i64 (i:Nat))))]
def R15 (hb:Qa) (B:Nat) (nm:List UInt8) (ts:List Tm) (ex:Ex) (E:Env) (h:Qa):Prop:=BL hb h B (Qcr nm ts ts.length) ∧
  ex=.ex 1∧∃ a b c d e,E=[(1,a),(5,some (.sc (.ptr B 0))),(18,b),(19,c),(20,d),(21,e)]
end Go.Proofs.YtofknpknogfijaaGreatDoor



namespace Go.Proofs.YtofknpknogfijaaGreatDoor
open Go.Ab
set_option linter.unusedVariables false
set_option linter.unusedSimpArgs false
set_option maxRecDepth 20000
set_option maxHeartbeats 8000000
attribute [local irreducible] Qi wA Xk Xj Qz Qo QS QV
set_option linter.unusedSectionVars false
variable [HB]
end Go.Proofs.YtofknpknogfijaaGreatDoor


namespace Go.Proofs.YtofknpknogfijaaGreatDoor
open Go.Ab
set_option linter.unusedVariables false
set_option linter.unusedSimpArgs false
set_option maxRecDepth 20000
set_option maxHeartbeats 8000000
attribute [local irreducible] Qi wA Xk Xj Qz Qo QS QV
set_option linter.unusedSectionVars false
variable [HB]
theorem Qgy {a:Int} (h:a.natAbs≤1000):ofP a [1]=⟨false,[(a,1)]⟩:=by
  unfold ofP
  have e:ofN a [1] 1=some [(a,1)]:=by
    show (some []).bind _=_
    rw [Option.bind_some,if_neg (by decide),if_pos ⟨by decide,by simp only [eM];omega,by simp only [eM];omega⟩]
    simp
  show (match ofN a [1] 1 with | some r=>(⟨false,r⟩:Pol) | none=>Jw)=_
  rw [e]
section
variable {FT:FuncId→Option AFun} {HK:FuncId→Option Xc} {E:Env} {h:Qa} {K:Env→Qa→Prop} {d:Option Nat} {r:List AOp} {xo:AO}
theorem Qje {x:Int} {z0:SV} (hx:ev E xo=some (.sc (.int .i64 x))) (hw:∀ h1,Ext h h1→IsInts h1 (.slc h.length 0 1 (some 1)) [x]→Qi FT HK r (Qq d (some (.sc (.slc h.length 0 1 (some 1)))) E) h1 K) :
    Qi FT HK (⟨d,.bsl 1 [z0] 1 [(0,xo)],none⟩::r) E h K :=
  Qjf hx (hw _ ⟨_,rfl⟩ (IsInts.lit rfl rfl))
end
end Go.Proofs.YtofknpknogfijaaGreatDoor



namespace Go.Proofs.YtofknpknogfijaaGreatDoor
open Go.Ab
set_option linter.unusedVariables false
set_option linter.unusedSimpArgs false
set_option maxRecDepth 20000
set_option maxHeartbeats 4000000
attribute [local irreducible] Qi wA Xk Xj Qz Qo QS QV
set_option linter.unusedSectionVars false
variable [HB]
def I16 (h0:Qa) (q2:Nat) (nm:List UInt8) (ts:List Tm) (E:Env) (h:Qa):Prop:=∃ i:Nat,i≤ts.length∧Ext h0 h ∧
  E.keep [1,2,5,6]=[(1,some (.sc (tb nm))),(2,some (.sc (.ptr q2 0))),(5,some (.sc (tb (Qcr nm ts i)))),(6,some (.sc (.int .i64 (i:Nat))))]
def R16 (h0:Qa) (nm:List UInt8) (ts:List Tm) (ex:Ex) (E:Env) (h:Qa):Prop:=Ext h0 h ∧
  ex=.ex 0∧∃ a b c d,E=[(1,a),(2,b),(5,some (.sc (tb (Qcr nm ts ts.length)))),(6,c),(19,d)]
end Go.Proofs.YtofknpknogfijaaGreatDoor


namespace Go.Proofs.YtofknpknogfijaaGreatDoor
open Go.Ab
set_option linter.unusedVariables false
set_option linter.unusedSimpArgs false
set_option maxRecDepth 20000
set_option maxHeartbeats 8000000
attribute [local irreducible] Qi wA Xk Xj Qz Qo QS QV
set_option linter.unusedSectionVars false
section
variable [HB]
def I6 (h0:Qa) (low:Int) (s:SV) (xs:List Int) (by_:Int) (k:Nat) (E:Env) (h:Qa):Prop:=∃ i:Nat,i≤xs.length∧k=xs.length-i∧(∀ x∈xs.take i,smC x)∧h=h0 ∧
  E.keep [0,1,2,7]=[(0,some (.sc (.int .i64 low))),(1,some (.sc s)),(2,some (.sc (.int .i8 by_))),(7,some (.sc (.int .i64 (i:Nat))))]
def R6 (h0:Qa) (low:Int) (s:SV) (xs:List Int) (by_:Int) (ex:Ex) (E:Env) (h:Qa):Prop:=h=h0 ∧
  ((ex=.ex 0∧(∀ x∈xs,smC x)∧∃ a b,E=[(0,some (.sc (.int .i64 low))),(1,some (.sc s)),(2,some (.sc (.int .i8 by_))),(7,a),(26,b)])∨(ex=.rt∧E=[(6,some (.sc (.bool true)))]))
end
end Go.Proofs.YtofknpknogfijaaGreatDoor






