/- High,Of,Equal: contracts. -/
import Derived.Test.YtofknpknogfijaaGreatDoorPM
import Derived.Test.YtofknpknogfijaaGreatDoorW2
import Derived.Test.YtofknpknogfijaaGreatDoorAb41
namespace Go.Proofs.YtofknpknogfijaaGreatDoor
open Go.Ab
set_option linter.unusedVariables false
set_option linter.unusedSimpArgs false
set_option maxRecDepth 20000
set_option maxHeartbeats 4000000
attribute [local irreducible] Qj wA Xm Xk QI Qo QW QV
set_option linter.unusedSectionVars false
variable [HB]
theorem Qfc {ts:List Tm} {t:Tm} (h:ts[ts.length-1]?=some t) (h0:ts≠[]):hi0 ts=t.1:=by
  unfold hi0
  rw [List.getLast?_eq_getElem?,h]
theorem QfF (h0:Qa) (b:Bool) (s:SV) (ts:List Tm) (hs:IsD h0 s (tms ts)) (hl:ts.length≤2097153):∃ r h',Cal FT HKt 54 [.agg [.bool b,s]] h0 r h'∧Ext h0 h'∧r=.sc (.int .i64 (hi0 ts)):=by
  refine Cal.of (F:=a54) rfl rfl rfl ?_
  have ls:=hs.len
  rw [Xg] at ls
  by_cases h:ts=[]
  · subst h
    rw [List.length_nil] at ls
    repeat' (first | refine Qg ?_ | refine Qb ?_ | refine QL ?_ | refine Qv ?_ | refine Qf ?_ | ((refine Qh ?_);refine Qk rfl ?_) | ((refine Qe ?_);first | refine Qq rfl ?_ | refine Qy rfl rfl ?_) | ((refine Qc ?_);first | (refine Q3 rfl ?_;intro h1 e1 c1) | refine Xc rfl c1 ?_ | refine Qu rfl ls ?_ | refine Qm rfl ?_ | refine Xt rfl rfl (by omega) ?_ | refine X6 rfl rfl ?_))
    exact ⟨.inr rfl,e1,rfl⟩
  · have hp:0 < ts.length:=List.length_pos_iff.2 h
    obtain ⟨t,ht⟩:∃ t,ts[ts.length-1]?=some t:=⟨_,List.getElem?_eq_getElem (by omega)⟩
    obtain ⟨id,off,cap,e,hr⟩:=hs.at (i:=ts.length-1) (p:=tmP t) (by simp [ht])
    rw [Xg] at e
    subst e
    rw [Qfc ht h]
    have ei:((ts.length:Int)-1).toNat=ts.length-1:=by omega
    have hr1:=fun H (e:Ext h0 H)=>QA e (rd1 hr).1
    rw [← ei] at hr1
    repeat' (first | refine Qg ?_ | refine Qb ?_ | refine Qp ?_ | refine Qv ?_ | refine Qf ?_ | ((refine Qh ?_);refine Qi rfl ?_) | ((refine Qe ?_);first | refine Qq rfl ?_ | refine Qy rfl rfl ?_) | ((refine Qc ?_);first | (refine Q3 rfl ?_;intro h1 e1 c1) | refine Xc rfl c1 ?_ | refine Qu rfl ls ?_ | refine Qx (esz:=2) rfl rfl (by omega) ?_ | refine QQ rfl ?_ | refine Q2 rfl (hr1 _ e1) ?_ | refine Qm rfl ?_ | refine ZI rfl rfl (by omega) ?_ | refine Xh rfl rfl (by omega) ?_))
    exact ⟨.inr rfl,e1,rfl⟩
def ofN (low:Int) (xs:List Int):Nat→Option (List Tm)
  | 0=>some []
  | i+1=>(ofN low xs i).bind fun r=>if xs.getD i 0=0 then some r else if (xs.getD i 0).natAbs≤cM∧low≤eM∧(low+i).natAbs≤eM then some (r++[(low+i,xs.getD i 0)]) else none
def ofP (low:Int) (xs:List Int):Pol:=match ofN low xs xs.length with
  | some r=>⟨false,r⟩
  | none=>JY
theorem Vx {low:Int} {xs:List Int}:∀ {i:Nat} {r:List Tm},ofN low xs i=some r→Can r∧(∀ t∈r,low≤t.1∧t.1 < low+i∧t.2.natAbs≤cM∧t.1.natAbs≤eM)∧∀ e,cf r e=if low≤e∧e < low+i then xs.getD (e-low).toNat 0 else 0
  | 0,r,h=>by
    simp [ofN] at h;subst h
    refine ⟨.nil,by simp,fun e=>?_⟩
    rw [if_neg (by omega)];rfl
  | i+1,r',h=>by
    rw [ofN,Option.bind_eq_some_iff] at h
    obtain ⟨r,h1,h⟩:=h
    obtain ⟨a,b,c⟩:=Vx h1
    split at h
    · rename_i hz
      cases h
      refine ⟨a,fun t ht=>?_,fun e=>?_⟩
      · have:=b t ht;omega
      · rw [c e]
        by_cases he:e=low+i
        · subst he
          rw [if_neg (by omega),if_pos (by omega),show (low+(i:Int)-low).toNat=i by omega,hz]
        · by_cases h2:low≤e∧e < low+i
          · rw [if_pos h2,if_pos (by omega)]
          · rw [if_neg h2,if_neg (by omega)]
    · rename_i hz
      split at h
      · rename_i hc
        cases h
        refine ⟨⟨List.pairwise_append.2 ⟨a.asc,by simp,fun u hu v hv=>?_⟩,fun t ht=>?_⟩,fun t ht=>?_,fun e=>?_⟩
        · simp at hv;subst hv
          exact (b u hu).2.1
        · rcases List.mem_append.1 ht with ht | ht
          · exact a.nz t ht
          · simp at ht;subst ht;exact hz
        · rcases List.mem_append.1 ht with ht | ht
          · have:=b t ht;omega
          · rw [List.mem_singleton] at ht;subst ht;simp only;omega
        · rw [QkZ,Ji,c e]
          simp only
          rw [show cf [] e=0 from rfl]
          by_cases he:e=low+i
          · subst he
            rw [if_neg (by omega),yl,if_pos (by omega),show (low+(i:Int)-low).toNat=i by omega];omega
          · rw [U5 (by omega)]
            by_cases h2:low≤e∧e < low+i
            · rw [if_pos h2,if_pos (by omega)];omega
            · rw [if_neg h2,if_neg (by omega)];omega
      · cases h
theorem Qcq {low:Int} {xs:List Int} {i:Nat} {r:List Tm} (h:ofN low xs i=some r):r.length≤i:=by
  obtain ⟨a,b,_⟩:=Vx h
  exact zy a fun t ht=>⟨(b t ht).1,(b t ht).2.1⟩
theorem qT {low:Int} {xs:List Int}:∀ {i j:Nat},i≤j→ofN low xs i=none→ofN low xs j=none
  | i, 0, h, hn => by obtain rfl : i = 0 := by omega
                      exact hn
  | i,j+1,h,hn=>by
    by_cases e:i=j+1
    · rw [← e];exact hn
    · rw [ofN,qT (i:=i) (by omega) hn];rfl
structure St20 (h0 h:Qa) (q4 q5:Nat) (a b s:SV) (r:List Tm):Prop where
  e:Ext h0 h
  c4:Cel h q4 a b
  c5:Cel h q5 (.bool false) s
  o:OwnD h0 h s (tms r)
  l4:h0.length≤q4
  l5:h0.length≤q5
  ne:q4≠q5
def I20 (h0:Qa) (q4 q5:Nat) (low:Int) (c:SV) (xs:List Int) (E:Env) (h:Qa):Prop:=∃ (i:Nat) (r:List Tm) (s:SV),i≤xs.length∧ofN low xs i=some r∧St20 h0 h q4 q5 (.bool false) .nilS s r ∧
  E.keep [0,4,5,8,9,10]=[(0,some (.sc (.int .i64 low))),(4,some (.sc (.ptr q4 0))),(5,some (.sc (.ptr q5 0))),(8,some (.sc c)),(9,some (.sc (.int .i64 (xs.length:Nat)))),(10,some (.sc (.int .i64 (i:Nat))))]
def R20 (h0:Qa) (q4 q5:Nat) (low:Int) (xs:List Int) (ex:Ex) (E:Env) (h:Qa):Prop :=
  (ex=.ex 0∧∃ r s a b c d e,ofN low xs xs.length=some r∧St20 h0 h q4 q5 (.bool false) .nilS s r∧E=[(0,a),(4,some (.sc (.ptr q4 0))),(5,some (.sc (.ptr q5 0))),(8,b),(9,c),(10,d),(11,e)]) ∨
  (ex=.rt∧∃ (r:List Tm) (s:SV),ofN low xs xs.length=none∧St20 h0 h q4 q5 (.bool true) .nilS s r∧E=[(4,some (.sc (.ptr q4 0)))])
def cK (ks:List Nat) (n t:Nat) (E:Env) (_:Qa):Nat:=match (E.keep ks).get t with
  | some (.sc (.int _ i))=>n-i.toNat
  | _=>0
theorem Qcd (h0:Qa) (q4 q5:Nat) (low:Int) (hlow : -9223372036854775808≤low∧low≤9223372036854775807) (c:SV) (xs:List Int) (hn:xs.length≤1000000) (hc:IsInts h0 c xs) (hw:∀ x∈xs,-9223372036854775808≤x∧x≤9223372036854775807) (E:Env) (h:Qa) (hI:I20 h0 q4 q5 low c xs E h) :
    wA FT HKt Qjl (E.keep [0,4,5,8,9,10]) h (QI (I20 h0 q4 q5 low c xs) (cK [0,4,5,8,9,10] xs.length 10) (cK [0,4,5,8,9,10] xs.length 10 E h) (R20 h0 q4 q5 low xs)):=by
  obtain ⟨i,r,s,hi,hr,st,hE⟩:=hI
  have hm:cK [0,4,5,8,9,10] xs.length 10 E h=xs.length-i:=by unfold cK;rw [hE];rfl
  rw [hm,hE]
  by_cases hlt:i < xs.length
  · obtain ⟨x,hx⟩:∃ x,xs[i]?=some x:=⟨_,List.getElem?_eq_getElem hlt⟩
    have hx2:xs.getD i 0=x:=by rw [List.getD_eq_getElem?_getD,hx];rfl
    obtain ⟨id,off,cap,rfl,rd0⟩:=IsInts.at hc hx
    have rd:=QA st.e rd0
    have hxw:=hw x (List.mem_of_getElem? hx)
    have k35:=fun H v l hl=>QbL H v l hl
    by_cases hz:x=0
    · have en:ofN low xs (i+1)=some r:=by rw [ofN,hr,Option.bind_some,hx2,if_pos hz]
      subst hz
      repeat' (first | refine Qg ?_ | refine Qb ?_ | refine QK ?_ | refine Qt ?_ | refine QC ?_ | refine Qp ?_ | refine QH ?_ | refine Qf ?_ | ((refine Qh ?_);refine Qk rfl ?_) | ((refine Qe ?_);first | refine QD rfl rfl rfl rfl rfl rfl ?_ | refine Q4 rfl rfl rfl rfl rfl rfl rfl ?_ | refine Q8 rfl rfl rfl rfl rfl rfl rfl rfl ?_ | refine Xj rfl rfl rfl rfl rfl rfl rfl rfl rfl ?_) | ((refine Qc ?_);first | refine Qx (esz:=1) rfl rfl (by omega) ?_ | refine Q2 rfl rd ?_ | refine Qm rfl ?_ | refine QM rfl rfl (by omega) ?_ | refine Qw rfl rfl (by omega) ?_ | refine Xt rfl rfl (by omega) ?_))
      exact Ym ⟨i+1,r,s,by omega,en,st,rfl⟩ (by simp [cK,Env.keep,Env.get];omega)
    · have en:ofN low xs (i+1)=if x.natAbs≤cM∧low≤eM∧(low+i).natAbs≤eM then some (r++[(low+i,x)]) else none:=by rw [ofN,hr,Option.bind_some,hx2,if_neg hz]
      have k1:=fun H=>QbL H x 1125899906842624 (by omega)
      have k2:=fun H=>QbL H (low+i) 1048576 (by omega)
      rw [show (1125899906842624:Int).toNat=cM by rfl] at k1
      rw [show (1048576:Int).toNat=eM by rfl] at k2
      have bad:ofN low xs (i+1)=none→∀ h2,Wr h h2 q4 (.bool true) .nilS→∃ (r:List Tm) (s:SV),ofN low xs xs.length=none∧St20 h0 h2 q4 q5 (.bool true) .nilS s r:=fun hn h2 w=>⟨r,s,qT (by omega) hn,w.ext st.e st.l4,w.cel,w.keep st.c5 (Ne.symm st.ne),st.o.wrC w,st.l4,st.l5,st.ne⟩
      have c4:=st.c4
      have c5:=st.c5
      by_cases a1:x.natAbs≤cM
      · rw [decide_eq_true a1] at k1
        by_cases a2:low≤1048576
        · by_cases a3:(low+i).natAbs≤eM
          · rw [decide_eq_true a3] at k2
            rw [if_pos ⟨a1,a2,a3⟩] at en
            have hrl:=Qcq hr
            have rdC:QT h q5 (0+1) 1=some [s]:=(rd1 c5.read).2
            repeat' (first | refine Qg ?_ | refine Qb ?_ | refine Qt ?_ | refine QG ?_ | refine Qp ?_ | refine Qf ?_ | ((refine Qh ?_);first | refine Qk rfl ?_ | refine Qi rfl ?_) | ((refine Qe ?_);first | refine QD rfl rfl rfl rfl rfl rfl ?_ | refine Q4 rfl rfl rfl rfl rfl rfl rfl ?_ | refine Q8 rfl rfl rfl rfl rfl rfl rfl rfl ?_ | refine Xj rfl rfl rfl rfl rfl rfl rfl rfl rfl ?_) | ((refine Qc ?_);first | refine Qx (esz:=1) rfl rfl (by omega) ?_ | refine Q2 rfl rd ?_ | (refine Qn rfl (k1 _) ?_;rintro v _ ⟨rfl,rfl⟩) | (refine Qn rfl (k2 _) ?_;rintro v _ ⟨rfl,rfl⟩) | refine QQ rfl ?_ | (refine Xc rfl c5 ?_) | (refine X5 rfl rfl ?_) | (refine QhP st.e st.o rfl rfl (by rw [Xg];simp only [XQ];omega) ?_;intro s' h2 o2 e2 f2 l2;have d5:=c5.fram f2 (st.o.cel c5);have d4:=c4.fram f2 (st.o.cel c4)) | (refine Uf rfl rfl d5 ?_;intro h3 w3) | refine QX rfl ?_ | refine Qm rfl ?_ | refine QU rfl rfl ?_ | refine XZ rfl ?_ | refine QM rfl rfl (by omega) ?_ | refine Qw rfl rfl (by omega) ?_ | refine XA rfl rfl (by omega) ?_ | refine Xh rfl rfl (by omega) ?_))
            refine Ym ⟨i+1,_,s',by omega,en,⟨w3.ext e2 st.l5,w3.keep d4 st.ne,w3.cel,?_,st.l4,st.l5,st.ne⟩,rfl⟩ (by simp [cK,Env.keep,Env.get];omega)
            have:=o2.wrC w3
            simpa [tms,tmP] using this
          · rw [decide_eq_false a3] at k2
            rw [if_neg fun h=>a3 h.2.2] at en
            repeat' (first | refine Qg ?_ | refine Qb ?_ | refine QL ?_ | refine Qt ?_ | refine Q9 ?_ | refine Qp ?_ | refine Qv ?_ | refine Qf ?_ | ((refine Qh ?_);first | refine Qk rfl ?_ | refine Qi rfl ?_) | ((refine Qe ?_);first | refine Qq rfl ?_ | refine Q4 rfl rfl rfl rfl rfl rfl rfl ?_ | refine Q8 rfl rfl rfl rfl rfl rfl rfl rfl ?_ | refine Xj rfl rfl rfl rfl rfl rfl rfl rfl rfl ?_) | ((refine Qc ?_);first | refine Qx (esz:=1) rfl rfl (by omega) ?_ | refine Q2 rfl rd ?_ | (refine Qn rfl (k1 _) ?_;rintro v _ ⟨rfl,rfl⟩) | (refine Qn rfl (k2 _) ?_;rintro v _ ⟨rfl,rfl⟩) | (refine X5 rfl rfl ?_) | (refine Xw rfl rfl c4 ?_;intro h3 w3) | refine QX rfl ?_ | refine Qm rfl ?_ | refine QU rfl rfl ?_ | refine XZ rfl ?_ | refine Yh rfl ?_ | refine QM rfl rfl (by omega) ?_ | refine Qw rfl rfl (by omega) ?_ | refine XA rfl rfl (by omega) ?_ | refine Xh rfl rfl (by omega) ?_))
            obtain ⟨r',s',b1,b2⟩:=bad en h3 w3
            exact Jr (.inr ⟨rfl,r',s',b1,b2,rfl⟩)
        · rw [if_neg fun h=>a2 h.2.1] at en
          repeat' (first | refine Qg ?_ | refine Qb ?_ | refine QL ?_ | refine Qt ?_ | refine Q9 ?_ | refine Qp ?_ | refine Qv ?_ | refine Qf ?_ | ((refine Qh ?_);first | refine Qk rfl ?_ | refine Qi rfl ?_) | ((refine Qe ?_);first | refine Qq rfl ?_ | refine Q4 rfl rfl rfl rfl rfl rfl rfl ?_ | refine Q8 rfl rfl rfl rfl rfl rfl rfl rfl ?_ | refine Xj rfl rfl rfl rfl rfl rfl rfl rfl rfl ?_) | ((refine Qc ?_);first | refine Qx (esz:=1) rfl rfl (by omega) ?_ | refine Q2 rfl rd ?_ | (refine Qn rfl (k1 _) ?_;rintro v _ ⟨rfl,rfl⟩) | (refine X5 rfl rfl ?_) | (refine Xw rfl rfl c4 ?_;intro h3 w3) | refine Xo rfl ?_ | refine QX rfl ?_ | refine Qm rfl ?_ | refine QY rfl rfl ?_ | refine QU rfl rfl ?_ | refine XZ rfl ?_ | refine Qw rfl rfl (by omega) ?_ | refine XG rfl rfl (by omega) ?_ | refine Xh rfl rfl (by omega) ?_))
          obtain ⟨r',s',b1,b2⟩:=bad en h3 w3
          exact Jr (.inr ⟨rfl,r',s',b1,b2,rfl⟩)
      · rw [decide_eq_false a1] at k1
        rw [if_neg fun h=>a1 h.1] at en
        repeat' (first | refine Qg ?_ | refine Qb ?_ | refine QL ?_ | refine Qt ?_ | refine Q9 ?_ | refine Qp ?_ | refine Qv ?_ | refine Qf ?_ | ((refine Qh ?_);first | refine Qk rfl ?_ | refine Qi rfl ?_) | ((refine Qe ?_);first | refine Qq rfl ?_ | refine Q4 rfl rfl rfl rfl rfl rfl rfl ?_ | refine Q8 rfl rfl rfl rfl rfl rfl rfl rfl ?_ | refine Xj rfl rfl rfl rfl rfl rfl rfl rfl rfl ?_) | ((refine Qc ?_);first | refine Qx (esz:=1) rfl rfl (by omega) ?_ | refine Q2 rfl rd ?_ | (refine Qn rfl (k1 _) ?_;rintro v _ ⟨rfl,rfl⟩) | (refine X5 rfl rfl ?_) | (refine Xw rfl rfl c4 ?_;intro h3 w3) | refine Xo rfl ?_ | refine Qm rfl ?_ | refine QY rfl rfl ?_ | refine Yh rfl ?_ | refine Qw rfl rfl (by omega) ?_ | refine Xh rfl rfl (by omega) ?_))
        obtain ⟨r',s',b1,b2⟩:=bad en h3 w3
        exact Jr (.inr ⟨rfl,r',s',b1,b2,rfl⟩)
  · have:i=xs.length:=by omega
    subst this
    repeat' (first | refine Qg ?_ | refine Qb ?_ | refine QK ?_ | refine QH ?_ | refine Qf ?_ | ((refine Qh ?_);refine Qi rfl ?_) | ((refine Qe ?_);refine Q4 rfl rfl rfl rfl rfl rfl rfl ?_) | ((refine Qc ?_);refine QE rfl rfl (by omega) ?_))
    exact Yx (.inl ⟨rfl,r,s,_,_,_,_,_,hr,st,rfl⟩)
theorem Qll (h0:Qa) (low:Int) (hlow : -9223372036854775808≤low∧low≤9223372036854775807) (c:SV) (xs:List Int) (hn:xs.length≤1000000) (hc:IsInts h0 c xs) (hw:∀ x∈xs,-9223372036854775808≤x∧x≤9223372036854775807) :
    ∃ r h',Cal FT HKt 20 [.sc (.int .i64 low),.sc c] h0 r h'∧Ext h0 h'∧IsPol h' r (ofP low xs):=by
  refine Cal.of (F:=a20) rfl rfl rfl ?_
  have lc:=IsSl.len hc
  repeat' (first | refine Qg ?_ | refine Qb ?_ | refine Qt ?_ | refine Qf ?_ | ((refine Qe ?_);first | refine QB rfl rfl rfl ?_ | refine QS rfl rfl rfl rfl ?_ | refine QD rfl rfl rfl rfl rfl rfl ?_) | ((refine Qc ?_);first | (have z:=e1;refine Xz ?_;intro h2 e2 c2;have d1:=c1.ext e2) | (refine Xz ?_;intro h1 e1 c1) | refine Qu rfl lc ?_ | refine Qm rfl ?_))
  have n1:=e1.len
  have n2:=c1.lt
  refine Js (I20 h0 h0.length h1.length low c xs) (cK [0,4,5,8,9,10] xs.length 10) (R20 h0 h0.length h1.length low xs) ⟨0,[],.nilS,Nat.zero_le _,rfl,⟨e1.trans e2,d1,c2,.inl ⟨rfl,rfl⟩,Nat.le_refl _,n1,by omega⟩,rfl⟩ (Qcd h0 _ _ low hlow c xs hn hc hw) ?_
  rintro ex E' h3 (⟨rfl,r,s,a,b,c,d,e,hr,st,rfl⟩ | ⟨rfl,r,s,hr,st,rfl⟩)
  · have c5:=st.c5
    have c4:=st.c4
    repeat' (first | refine Qg ?_ | refine Qb ?_ | refine QC ?_ | refine Qv ?_ | refine Qf ?_ | ((refine Qe ?_);refine Qq rfl ?_) | ((refine Qc ?_);first | refine Xa rfl c5 ?_ | (refine Xw rfl rfl c4 ?_;intro h4 w4)))
    refine ⟨.inr rfl,XM rfl w4.cel.read ⟨w4.ext st.e st.l4,s,?_,?_⟩⟩
    · unfold ofP;rw [hr]
    · unfold ofP;rw [hr]
      exact (st.o.wrC w4).is
  · repeat' (first | refine QL ?_ | refine Q9 ?_)
    refine ⟨.inr rfl,XM rfl st.c4.read ⟨st.e,.nilS,?_,?_⟩⟩
    · unfold ofP;rw [hr]
    · unfold ofP;rw [hr]
      exact IsD.nil _
end Go.Proofs.YtofknpknogfijaaGreatDoor


namespace Go.Proofs.YtofknpknogfijaaGreatDoor
open Go.Ab
set_option linter.unusedVariables false
set_option linter.unusedSimpArgs false
set_option maxRecDepth 20000
set_option maxHeartbeats 4000000
attribute [local irreducible] Qj wA Xm Xk QI Qo QW QV
set_option linter.unusedSectionVars false
variable [HB]
def I60 (h0:Qa) (s t:SV) (a b:List Tm) (E:Env) (h:Qa):Prop:=h=h0∧∃ i:Nat,i≤a.length∧a.take i=b.take i ∧
  E.keep [0,1,12,13]=[(0,some (.sc s)),(1,some (.sc t)),(12,some (.sc (.int .i64 (a.length:Nat)))),(13,some (.sc (.int .i64 (i:Nat))))]
def R60 (h0:Qa) (a b:List Tm) (ex:Ex) (E:Env) (h:Qa):Prop:=h=h0∧((ex=.ex 0∧a=b)∨(ex=.rt∧a≠b∧E=[(4,some (.sc (.bool false)))]))
end Go.Proofs.YtofknpknogfijaaGreatDoor


namespace Go.Proofs.YtofknpknogfijaaGreatDoor
open Go.Ab
set_option linter.unusedVariables false
set_option linter.unusedSimpArgs false
set_option maxRecDepth 20000
set_option maxHeartbeats 4000000
attribute [local irreducible] Qj wA Xm Xk QI Qo QW QV
set_option linter.unusedSectionVars false
variable [HB]
def wdP (v:Int):P2:=(.int .u64 (v / 18446744073709551616%18446744073709551616),.int .u64 (v%18446744073709551616))
theorem wd_P (v:Int):wd v=[(wdP v).1,(wdP v).2]:=rfl
def Cel1 (h:Qa) (q:Nat) (a:SV):Prop:=h[q]?=some (.cells [a] true 0)
theorem Cel1.at {h:Qa} {q:Nat} {a:SV} (c:Cel1 h q a):Blk.At h q [a]:=⟨true,0,c⟩
theorem Cel1.ext {h h':Qa} {q:Nat} {a:SV} (c:Cel1 h q a) (he:Ext h h'):Cel1 h' q a:=he.get _ _ c
def smL (f:Int→Int) (lo:Int) (n:Nat):List Int:=(List.range n).map fun k:Nat=>f (lo+(k:Int))
structure Sx (h0 hb h:Qa) (S:SV) (q7 q5:Nat) (lo:Int) (vs:List Int):Prop where
  e:Ext h0 h
  o:OwnD h0 h S (vs.map wdP)
  b7:Cel1 h q7 S
  b5:Cel1 h q5 (.int .i64 lo)
  k:∀ (j:Nat) (b:Blk),hb[j]?=some b→XS S j→h[j]?=some b
def I56i (h0 hb:Qa) (S:SV) (q7 q5 q4 qt:Nat) (lo:Int) (n:Nat) (bb:Bool) (sp sq:SV) (p q:List Tm) (i:Nat) (t:Tm) (E:Env) (h:Qa):Prop:=∃ j:Nat,j≤q.length∧Sx h0 hb h S q7 q5 lo (smL (fun e=>mc (p.take i) q e+mc [t] (q.take j) e) lo n)∧Cel h q4 (.bool bb) sq∧Cel h qt (.int .i64 t.1) (.int .i64 t.2) ∧
  E.keep [2,4,7,11,12,13,18,19,20]=[(2,some (.sc (.fn 57 [(q7,0),(q5,0)]))),(4,some (.sc (.ptr q4 0))),(7,some (.sc (.ptr qt 0))),(11,some (.sc sp)),(12,some (.sc (.int .i64 (p.length:Nat)))),(13,some (.sc (.int .i64 (i:Nat)))),(18,some (.sc sq)),(19,some (.sc (.int .i64 (q.length:Nat)))),(20,some (.sc (.int .i64 (j:Nat))))]
def R56i (h0 hb:Qa) (S:SV) (q7 q5 q4:Nat) (lo:Int) (n:Nat) (bb:Bool) (sp sq:SV) (p q:List Tm) (i:Nat) (t:Tm) (ex:Ex) (E:Env) (h:Qa):Prop:=ex=.ex 2∧Sx h0 hb h S q7 q5 lo (smL (fun e=>mc (p.take i) q e+mc [t] q e) lo n)∧Cel h q4 (.bool bb) sq∧∃ a b c d e,
  E=[(2,some (.sc (.fn 57 [(q7,0),(q5,0)]))),(4,some (.sc (.ptr q4 0))),(7,a),(11,some (.sc sp)),(12,some (.sc (.int .i64 (p.length:Nat)))),(13,some (.sc (.int .i64 (i:Nat)))),(18,b),(19,c),(20,d),(21,e)]
structure Tfit (ts:List Tm):Prop where
  len:ts.length≤2097153
  cf:∀ t∈ts,t.2.natAbs≤cM
  ex:∀ t∈ts,t.1.natAbs≤4194304
def I56 (h0 hb:Qa) (S:SV) (q7 q5 q4:Nat) (lo:Int) (n:Nat) (bb:Bool) (sp sq:SV) (p q:List Tm) (E:Env) (h:Qa):Prop:=∃ i:Nat,i≤p.length∧Sx h0 hb h S q7 q5 lo (smL (fun e=>mc (p.take i) q e) lo n)∧Cel h q4 (.bool bb) sq ∧
  E.keep [2,4,11,12,13]=[(2,some (.sc (.fn 57 [(q7,0),(q5,0)]))),(4,some (.sc (.ptr q4 0))),(11,some (.sc sp)),(12,some (.sc (.int .i64 (p.length:Nat)))),(13,some (.sc (.int .i64 (i:Nat))))]
def R56 (h0 hb:Qa) (S:SV) (q7 q5:Nat) (lo:Int) (n:Nat) (p q:List Tm) (ex:Ex) (E:Env) (h:Qa):Prop:=ex=.ex 0∧Sx h0 hb h S q7 q5 lo (smL (fun e=>mc p q e) lo n)
end Go.Proofs.YtofknpknogfijaaGreatDoor



namespace Go.Proofs.YtofknpknogfijaaGreatDoor
open Go.Ab
set_option linter.unusedVariables false
set_option linter.unusedSimpArgs false
set_option maxRecDepth 20000
set_option maxHeartbeats 8000000
attribute [local irreducible] Qj wA Xm Xk QI Qo QW QV
set_option linter.unusedSectionVars false
variable [HB]
def smC (x:Int):Prop := -4611686018427387904≤x∧x≤4611686018427387904
def smallP (low:Int) (xs:List Int):Prop:=xs.length≤20 ∧ -100≤low∧low≤100∧∀ x∈xs,smC x
def Qbi (low:Int) (xs:List Int):Prop:=xs.length≤20 ∧ -1000≤low∧low≤1000∧∀ x∈xs,smC x
theorem smallP.q {low:Int} {xs:List Int} (h:smallP low xs):Qbi low xs:=⟨h.1,by have:=h.2.1;omega,by have:=h.2.2.1;omega,h.2.2.2⟩
end Go.Proofs.YtofknpknogfijaaGreatDoor



namespace Go.Proofs.YtofknpknogfijaaGreatDoor
open Go.Ab
set_option linter.unusedVariables false
set_option linter.unusedSimpArgs false
set_option maxRecDepth 20000
set_option maxHeartbeats 4000000
attribute [local irreducible] Qj wA Xm Xk QI Qo QW QV
set_option linter.unusedSectionVars false
variable [HB]
theorem Qid (h0:Qa) (hi lo y:Nat) (hhi:hi < 18446744073709551616) (hlo:lo < 18446744073709551616) (hy:0 < y∧y < 18446744073709551616) :
    ∃ r h',Cal FT HKt 124 [.sc (.int .u64 (hi:Nat)),.sc (.int .u64 (lo:Nat)),.sc (.int .u64 (y:Nat))] h0 r h'∧h'=h0∧r=.sc (.int .u64 (((hi*18446744073709551616+lo)%y:Nat):Int)):=by
  refine Cal.of (F:=a124) rfl rfl rfl ?_
  have k71:=fun H=>Qij H (hi%y) lo y (Nat.mod_lt _ hy.1) hlo hy.2
  have e:(hi%y*18446744073709551616+lo)%y=(hi*18446744073709551616+lo)%y:=by
    rw [Nat.add_mod,Nat.mul_mod,Nat.mod_mod,← Nat.mul_mod,← Nat.add_mod]
  rw [e] at k71
  have e2:(hi:Int)%(y:Int)=((hi%y:Nat):Int):=rfl
  repeat' (first | refine Qg ?_ | refine Qb ?_ | refine Qv ?_ | refine Qf ?_ | ((refine Qe ?_);first | refine Qq rfl ?_ | refine QB rfl rfl rfl ?_) | ((refine Qc ?_);first | (refine Qe0 rfl rfl (by omega) ?_;rw [e2]) | (refine Qn rfl (k71 _) ?_;rintro r _ ⟨rfl,rfl⟩) | refine Qm rfl ?_ | refine X6 rfl rfl ?_))
  exact ⟨.inr rfl,rfl,rfl⟩
end Go.Proofs.YtofknpknogfijaaGreatDoor


/- The value of the terms whose exponents are not negative: contracts. -/
namespace Go.Proofs.YtofknpknogfijaaGreatDoor
open Go.Ab
set_option linter.unusedVariables false
set_option linter.unusedSimpArgs false
set_option maxRecDepth 20000
set_option maxHeartbeats 4000000
attribute [local irreducible] Qj wA Xm Xk QI Qo QW QV
set_option linter.unusedSectionVars false
variable [HB]
section
variable {FT:FuncId→Option AFun} {HK:FuncId→Option Xe} {E:Env} {h:Qa} {K:Env→Qa→Prop} {d:Option Nat} {r:List AOp} {x:AO}
end
end Go.Proofs.YtofknpknogfijaaGreatDoor




namespace Go.Proofs.YtofknpknogfijaaGreatDoor
open Go.Ab
set_option linter.unusedVariables false
set_option linter.unusedSimpArgs false
set_option maxRecDepth 20000
set_option maxHeartbeats 4000000
attribute [local irreducible] Qj wA Xm Xk QI Qo QW QV
set_option linter.unusedSectionVars false
variable [HB]
def QeM (p q:List Tm):Int:=lo0 p+lo0 q
def mulN (p q:List Tm):Nat:=(hi0 p+hi0 q-(lo0 p+lo0 q)+1).toNat
def mulP (p q:Pol):Pol:=open Classical in
  if p.big=true∨q.big=true then JY
  else if p.ts=[]∨q.ts=[] then Qiw
  else if QeM p.ts q.ts < -1048576∨1048576 < hi0 p.ts+hi0 q.ts then JY
  else if ∀ t∈mulL p.ts q.ts (QeM p.ts q.ts) (mulN p.ts q.ts),t.2.natAbs≤cM then ⟨false,mulL p.ts q.ts (QeM p.ts q.ts) (mulN p.ts q.ts)⟩ else JY
theorem VA {p:List Tm} (h0:p≠[]):∃ t∈p,t.1=lo0 p:=by
  cases p with
  | nil=>exact absurd rfl h0
  | cons t r=>exact ⟨t,.head _,rfl⟩
structure St22 (h0 h:Qa) (q4 q5 q8:Nat) (lo:Int) (a:Bool) (S s:SV) (vs:List Int) (r:List Tm):Prop where
  e:Ext h0 h
  c4:Cel h q4 (.bool a) .nilS
  c5:Cel1 h q5 (.int .i64 lo)
  c8:Cel h q8 (.bool false) s
  o:OwnD h0 h s (tms r)
  sm:IsD h S (vs.map wdP)
  ap:Go.Ab.Apart s S
def I22 (h0:Qa) (q4 q5 q8:Nat) (lo:Int) (S:SV) (f:Int→Int) (n:Nat) (E:Env) (h:Qa):Prop:=∃ (i:Nat) (s:SV),i≤n∧(∀ k:Nat,k < i→(f (lo+k)).natAbs≤cM)∧St22 h0 h q4 q5 q8 lo false S s (smL f lo n) (Qff f lo i) ∧
  E.keep [4,5,8,73,74,75]=[(4,some (.sc (.ptr q4 0))),(5,some (.sc (.ptr q5 0))),(8,some (.sc (.ptr q8 0))),(73,some (.sc S)),(74,some (.sc (.int .i64 (n:Nat)))),(75,some (.sc (.int .i64 (i:Nat))))]
def R22 (h0:Qa) (q4 q5 q8:Nat) (lo:Int) (S:SV) (f:Int→Int) (n:Nat) (ex:Ex) (E:Env) (h:Qa):Prop :=
  (ex=.ex 0∧∃ s a b c d,(∀ k:Nat,k < n→(f (lo+k)).natAbs≤cM)∧St22 h0 h q4 q5 q8 lo false S s (smL f lo n) (Qff f lo n)∧E=[(4,some (.sc (.ptr q4 0))),(5,a),(8,some (.sc (.ptr q8 0))),(73,b),(74,c),(75,d),(76,some (.sc (.bool false)))]) ∨
  (ex=.rt∧¬ (∀ k:Nat,k < n→(f (lo+k)).natAbs≤cM)∧Ext h0 h∧Cel h q4 (.bool true) .nilS∧E=[(4,some (.sc (.ptr q4 0)))])
end Go.Proofs.YtofknpknogfijaaGreatDoor


namespace Go.Proofs.YtofknpknogfijaaGreatDoor
open Go.Ab
set_option linter.unusedVariables false
set_option linter.unusedSimpArgs false
set_option maxRecDepth 20000
set_option maxHeartbeats 4000000
attribute [local irreducible] Qj wA Xm Xk QI Qo QW QV
set_option linter.unusedSectionVars false
variable [HB]
end Go.Proofs.YtofknpknogfijaaGreatDoor


namespace Go.Proofs.YtofknpknogfijaaGreatDoor
open Go.Ab
set_option linter.unusedVariables false
set_option linter.unusedSimpArgs false
set_option linter.unusedSectionVars false
variable [HB]
section
variable {FT:FuncId→Option AFun} {HK:FuncId→Option Xe} {E:Env} {h h0:Qa} {K:Env→Qa→Prop} {d:Option Nat} {r:List AOp} {x y xo so:AO} {m n:Int}
theorem JE {a b z0 z1:SV} (hx:ev E xo=some (.agg [a,b])) (hw:∀ h1,Ext h h1→Xi h1 2 (.slc h.length 0 1 (some 1))=some (1,[a,b])→Qj FT HK r (Qr d (some (.sc (.slc h.length 0 1 (some 1)))) E) h1 K) :
    Qj FT HK (⟨d,.bsl 2 [z0,z1] 1 [(0,xo)],none⟩::r) E h K:=by
  refine QZ (v:=some (.sc (.slc h.length 0 1 (some 1)))) (h':=h++[.cells [a,b] true 2]) rfl rfl ?_ (hw _ ⟨_,rfl⟩ (by simp [Xi,QT,cut]))
  simp [Ql,XJ,hx,AV.cells,YL,rep,Q1,ez2]
theorem ZK {bytes:Nat} {s t a b:SV} {ps:List P2} {z2:List SV} (he:Ext h0 h) (ho:OwnD h0 h s ps) (hs:evS E so=some s) (hx:evS E x=some t) (ht:Xi h 2 t=some (1,[a,b])) (hb:(ps.length+1)*(bytes+1)≤XQ)
    (hw:∀ s' h',OwnD h0 h' s' (ps++[(a,b)])→Ext h0 h'→Fram h h' s s'→h.length≤h'.length→Qj FT HK r (Qr d (some (.sc s')) E) h' K) :
    Qj FT HK (⟨d,.app 2 bytes z2 so x,none⟩::r) E h K:=by
  obtain ⟨s',h',h1,h2,h3,h4,h5⟩:=appD (bytes:=bytes) he ho hb a b
  refine QZ (v:=some (.sc s')) (h':=h') rfl rfl ?_ (hw s' h' h2 h3 h5 h4)
  simp only [Ql,hs,hx,Option.bind_some,ez2,ht,h1,Option.map_some]
theorem QkE (hx:evS E x=some (.int .i64 m)) (hy:evS E y=some (.int .i64 n)) (hr:n≠0 ∧ -9223372036854775808≤m.tdiv n∧m.tdiv n≤9223372036854775807) (hw:Qj FT HK r (Qr d (some (.sc (.int .i64 (m.tdiv n)))) E) h K):Qj FT HK (⟨d,.bin .quo x y,none⟩::r) E h K:=by
  refine Z8 (n:=m.tdiv n) rfl rfl ?_ hr.2 hw
  simp only [Ql,hx,hy,Option.bind_some,Zl,XP,qr]
  rw [if_neg (by decide),if_pos trivial,if_neg hr.1];rfl
end
end Go.Proofs.YtofknpknogfijaaGreatDoor




