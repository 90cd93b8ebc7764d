/- High,Of,Equal: contracts. -/
import Derived.Test.YtofknpknogfijaaGreatDoorPM
namespace Go.Proofs.YtofknpknogfijaaGreatDoor
open Go.Ab
set_option linter.unusedVariables false
set_option linter.unusedSimpArgs false
set_option maxRecDepth 20000
set_option maxHeartbeats 4000000
attribute [local irreducible] Qi wA Xk Xj Qz Qo QS QV
set_option linter.unusedSectionVars false
variable [HB]
theorem Qer {ts:List Tm} {t:Tm} (h:ts[ts.length-1]?=some t) (h0:ts≠[]):hi0 ts=t.1:=by
  unfold hi0
  rw [List.getLast?_eq_getElem?,h]
theorem Vo (h0:Qa) (b:Bool) (s:SV) (ts:List Tm) (hs:IsD h0 s (tms ts)) (hl:ts.length≤2097153):∃ r h',Cal FT HKt 54 [.agg [.bool b,s]] h0 r h'∧Ext h0 h'∧r=.sc (.int .i64 (hi0 ts)):=by
  refine Cal.of (F:=a54) rfl rfl rfl ?_
  have ls:=hs.len
  rw [XD] at ls
  by_cases h:ts=[]
  · subst h
    rw [List.length_nil] at ls
    repeat' (first | refine Qh ?_ | refine Qb ?_ | refine QF ?_ | refine Qs ?_ | refine Qf ?_ | ((refine Qg ?_);refine Qk rfl ?_) | ((refine Qe ?_);first | refine Qr rfl ?_ | refine Qv rfl rfl ?_) | ((refine Qc ?_);first | (refine QR rfl ?_;intro h1 e1 c1) | refine Q0 rfl c1 ?_ | refine QA rfl ls ?_ | refine Qp rfl ?_ | refine Xw rfl rfl (by omega) ?_ | refine XF rfl rfl ?_))
    exact ⟨.inr rfl,e1,rfl⟩
  · have hp:0 < ts.length:=List.length_pos_iff.2 h
    obtain ⟨t,ht⟩:∃ t,ts[ts.length-1]?=some t:=⟨_,List.getElem?_eq_getElem (by omega)⟩
    obtain ⟨id,off,cap,e,hr⟩:=hs.at (i:=ts.length-1) (p:=tmP t) (by simp [ht])
    rw [XD] at e
    subst e
    rw [Qer ht h]
    have ei:((ts.length:Int)-1).toNat=ts.length-1:=by omega
    have hr1:=fun H (e:Ext h0 H)=>QO e (rd1 hr).1
    rw [← ei] at hr1
    repeat' (first | refine Qh ?_ | refine Qb ?_ | refine Qn ?_ | refine Qs ?_ | refine Qf ?_ | ((refine Qg ?_);refine Qj rfl ?_) | ((refine Qe ?_);first | refine Qr rfl ?_ | refine Qv rfl rfl ?_) | ((refine Qc ?_);first | (refine QR rfl ?_;intro h1 e1 c1) | refine Q0 rfl c1 ?_ | refine QA rfl ls ?_ | refine QD (esz:=2) rfl rfl (by omega) ?_ | refine Xr rfl ?_ | refine Xx rfl (hr1 _ e1) ?_ | refine Qp rfl ?_ | refine YY rfl rfl (by omega) ?_ | refine Xa rfl rfl (by omega) ?_))
    exact ⟨.inr rfl,e1,rfl⟩
def ofN (low:Int) (xs:List Int):Nat→Option (List Tm)
  | 0=>some []
  | i+1=>(ofN low xs i).bind fun r=>if xs.getD i 0=0 then some r else if (xs.getD i 0).natAbs≤cM∧low≤eM∧(low+i).natAbs≤eM then some (r++[(low+i,xs.getD i 0)]) else none
def ofP (low:Int) (xs:List Int):Pol:=match ofN low xs xs.length with
  | some r=>⟨false,r⟩
  | none=>Jw
theorem zN {low:Int} {xs:List Int}:∀ {i:Nat} {r:List Tm},ofN low xs i=some r→Can r∧(∀ t∈r,low≤t.1∧t.1 < low+i∧t.2.natAbs≤cM∧t.1.natAbs≤eM)∧∀ e,cf r e=if low≤e∧e < low+i then xs.getD (e-low).toNat 0 else 0
  | 0,r,h=>by
    simp [ofN] at h;subst h
    refine ⟨.nil,by simp,fun e=>?_⟩
    rw [if_neg (by omega)];rfl
  | i+1,r',h=>by
    rw [ofN,Option.bind_eq_some_iff] at h
    obtain ⟨r,h1,h⟩:=h
    obtain ⟨a,b,c⟩:=zN h1
    split at h
    · rename_i hz
      cases h
      refine ⟨a,fun t ht=>?_,fun e=>?_⟩
      · have:=b t ht;omega
      · rw [c e]
        by_cases he:e=low+i
        · subst he
          rw [if_neg (by omega),if_pos (by omega),show (low+(i:Int)-low).toNat=i by omega,hz]
        · by_cases h2:low≤e∧e < low+i
          · rw [if_pos h2,if_pos (by omega)]
          · rw [if_neg h2,if_neg (by omega)]
    · rename_i hz
      split at h
      · rename_i hc
        cases h
        refine ⟨⟨List.pairwise_append.2 ⟨a.asc,by simp,fun u hu v hv=>?_⟩,fun t ht=>?_⟩,fun t ht=>?_,fun e=>?_⟩
        · simp at hv;subst hv
          exact (b u hu).2.1
        · rcases List.mem_append.1 ht with ht | ht
          · exact a.nz t ht
          · simp at ht;subst ht;exact hz
        · rcases List.mem_append.1 ht with ht | ht
          · have:=b t ht;omega
          · rw [List.mem_singleton] at ht;subst ht;simp only;omega
        · rw [QeP,yf,c e]
          simp only
          rw [show cf [] e=0 from rfl]
          by_cases he:e=low+i
          · subst he
            rw [if_neg (by omega),ZT,if_pos (by omega),show (low+(i:Int)-low).toNat=i by omega];omega
          · rw [yd (by omega)]
            by_cases h2:low≤e∧e < low+i
            · rw [if_pos h2,if_pos (by omega)];omega
            · rw [if_neg h2,if_neg (by omega)];omega
      · cases h
theorem Qgz {low:Int} {xs:List Int} {i:Nat} {r:List Tm} (h:ofN low xs i=some r):r.length≤i:=by
  obtain ⟨a,b,_⟩:=zN h
  exact JZ a fun t ht=>⟨(b t ht).1,(b t ht).2.1⟩
theorem VZ {low:Int} {xs:List Int}:∀ {i j:Nat},i≤j→ofN low xs i=none→ofN low xs j=none
  | i, 0, h, hn => by obtain rfl : i = 0 := by omega
                      exact hn
  | i,j+1,h,hn=>by
    by_cases e:i=j+1
    · rw [← e];exact hn
    · rw [ofN,VZ (i:=i) (by omega) hn];rfl
structure St20 (h0 h:Qa) (q4 q5:Nat) (a b s:SV) (r:List Tm):Prop where
  e:Ext h0 h
  c4:Cel h q4 a b
  c5:Cel h q5 (.bool false) s
  o:OwnD h0 h s (tms r)
  l4:h0.length≤q4
  l5:h0.length≤q5
  ne:q4≠q5
def I20 (h0:Qa) (q4 q5:Nat) (low:Int) (c:SV) (xs:List Int) (E:Env) (h:Qa):Prop:=∃ (i:Nat) (r:List Tm) (s:SV),i≤xs.length∧ofN low xs i=some r∧St20 h0 h q4 q5 (.bool false) .nilS s r ∧
  E.keep [0,4,5,8,9,10]=[(0,some (.sc (.int .i64 low))),(4,some (.sc (.ptr q4 0))),(5,some (.sc (.ptr q5 0))),(8,some (.sc c)),(9,some (.sc (.int .i64 (xs.length:Nat)))),(10,some (.sc (.int .i64 (i:Nat))))]
def R20 (h0:Qa) (q4 q5:Nat) (low:Int) (xs:List Int) (ex:Ex) (E:Env) (h:Qa):Prop :=
  (ex=.ex 0∧∃ r s a b c d e,ofN low xs xs.length=some r∧St20 h0 h q4 q5 (.bool false) .nilS s r∧E=[(0,a),(4,some (.sc (.ptr q4 0))),(5,some (.sc (.ptr q5 0))),(8,b),(9,c),(10,d),(11,e)]) ∨
  (ex=.rt∧∃ (r:List Tm) (s:SV),ofN low xs xs.length=none∧St20 h0 h q4 q5 (.bool true) .nilS s r∧E=[(4,some (.sc (.ptr q4 0)))])
def cK (ks:List Nat) (n t:Nat) (E:Env) (_:Qa):Nat:=match (E.keep ks).get t with
  | some (.sc (.int _ i))=>n-i.toNat
  | _=>0
theorem QbB (h0:Qa) (q4 q5:Nat) (low:Int) (hlow : -9223372036854775808≤low∧low≤9223372036854775807) (c:SV) (xs:List Int) (hn:xs.length≤1000000) (hc:IsInts h0 c xs) (hw:∀ x∈xs,-9223372036854775808≤x∧x≤9223372036854775807) (E:Env) (h:Qa) (hI:I20 h0 q4 q5 low c xs E h) :
    wA FT HKt QhW (E.keep [0,4,5,8,9,10]) h (Qz (I20 h0 q4 q5 low c xs) (cK [0,4,5,8,9,10] xs.length 10) (cK [0,4,5,8,9,10] xs.length 10 E h) (R20 h0 q4 q5 low xs)):=by
  obtain ⟨i,r,s,hi,hr,st,hE⟩:=hI
  have hm:cK [0,4,5,8,9,10] xs.length 10 E h=xs.length-i:=by unfold cK;rw [hE];rfl
  rw [hm,hE]
  by_cases hlt:i < xs.length
  · obtain ⟨x,hx⟩:∃ x,xs[i]?=some x:=⟨_,List.getElem?_eq_getElem hlt⟩
    have hx2:xs.getD i 0=x:=by rw [List.getD_eq_getElem?_getD,hx];rfl
    obtain ⟨id,off,cap,rfl,rd0⟩:=IsInts.at hc hx
    have rd:=QO st.e rd0
    have hxw:=hw x (List.mem_of_getElem? hx)
    have k35:=fun H v l hl=>Qa8 H v l hl
    by_cases hz:x=0
    · have en:ofN low xs (i+1)=some r:=by rw [ofN,hr,Option.bind_some,hx2,if_pos hz]
      subst hz
      repeat' (first | refine Qh ?_ | refine Qb ?_ | refine QP ?_ | refine Qt ?_ | refine QE ?_ | refine Qn ?_ | refine QL ?_ | refine Qf ?_ | ((refine Qg ?_);refine Qk rfl ?_) | ((refine Qe ?_);first | refine QM rfl rfl rfl rfl rfl rfl ?_ | refine Q7 rfl rfl rfl rfl rfl rfl rfl ?_ | refine Q5 rfl rfl rfl rfl rfl rfl rfl rfl ?_ | refine Q6 rfl rfl rfl rfl rfl rfl rfl rfl rfl ?_) | ((refine Qc ?_);first | refine QD (esz:=1) rfl rfl (by omega) ?_ | refine Xx rfl rd ?_ | refine Qp rfl ?_ | refine QK rfl rfl (by omega) ?_ | refine Qx rfl rfl (by omega) ?_ | refine Xw rfl rfl (by omega) ?_))
      exact Yd ⟨i+1,r,s,by omega,en,st,rfl⟩ (by simp [cK,Env.keep,Env.get];omega)
    · have en:ofN low xs (i+1)=if x.natAbs≤cM∧low≤eM∧(low+i).natAbs≤eM then some (r++[(low+i,x)]) else none:=by rw [ofN,hr,Option.bind_some,hx2,if_neg hz]
      have k1:=fun H=>Qa8 H x 1125899906842624 (by omega)
      have k2:=fun H=>Qa8 H (low+i) 1048576 (by omega)
      rw [show (1125899906842624:Int).toNat=cM by rfl] at k1
      rw [show (1048576:Int).toNat=eM by rfl] at k2
      have bad:ofN low xs (i+1)=none→∀ h2,Wr h h2 q4 (.bool true) .nilS→∃ (r:List Tm) (s:SV),ofN low xs xs.length=none∧St20 h0 h2 q4 q5 (.bool true) .nilS s r:=fun hn h2 w=>⟨r,s,VZ (by omega) hn,w.ext st.e st.l4,w.cel,w.keep st.c5 (Ne.symm st.ne),st.o.wrC w,st.l4,st.l5,st.ne⟩
      have c4:=st.c4
      have c5:=st.c5
      by_cases a1:x.natAbs≤cM
      · rw [decide_eq_true a1] at k1
        by_cases a2:low≤1048576
        · by_cases a3:(low+i).natAbs≤eM
          · rw [decide_eq_true a3] at k2
            rw [if_pos ⟨a1,a2,a3⟩] at en
            have hrl:=Qgz hr
            have rdC:QX h q5 (0+1) 1=some [s]:=(rd1 c5.read).2
            repeat' (first | refine Qh ?_ | refine Qb ?_ | refine Qt ?_ | refine QC ?_ | refine Qn ?_ | refine Qf ?_ | ((refine Qg ?_);first | refine Qk rfl ?_ | refine Qj rfl ?_) | ((refine Qe ?_);first | refine QM rfl rfl rfl rfl rfl rfl ?_ | refine Q7 rfl rfl rfl rfl rfl rfl rfl ?_ | refine Q5 rfl rfl rfl rfl rfl rfl rfl rfl ?_ | refine Q6 rfl rfl rfl rfl rfl rfl rfl rfl rfl ?_) | ((refine Qc ?_);first | refine QD (esz:=1) rfl rfl (by omega) ?_ | refine Xx rfl rd ?_ | (refine Qm rfl (k1 _) ?_;rintro v _ ⟨rfl,rfl⟩) | (refine Qm rfl (k2 _) ?_;rintro v _ ⟨rfl,rfl⟩) | refine Xr rfl ?_ | (refine Q0 rfl c5 ?_) | (refine Y0 rfl rfl ?_) | (refine Qb0 st.e st.o rfl rfl (by rw [XD];simp only [YV];omega) ?_;intro s' h2 o2 e2 f2 l2;have d5:=c5.fram f2 (st.o.cel c5);have d4:=c4.fram f2 (st.o.cel c4)) | (refine Vb rfl rfl d5 ?_;intro h3 w3) | refine QY rfl ?_ | refine Qp rfl ?_ | refine QT rfl rfl ?_ | refine XQ rfl ?_ | refine QK rfl rfl (by omega) ?_ | refine Qx rfl rfl (by omega) ?_ | refine Xq rfl rfl (by omega) ?_ | refine Xa rfl rfl (by omega) ?_))
            refine Yd ⟨i+1,_,s',by omega,en,⟨w3.ext e2 st.l5,w3.keep d4 st.ne,w3.cel,?_,st.l4,st.l5,st.ne⟩,rfl⟩ (by simp [cK,Env.keep,Env.get];omega)
            have:=o2.wrC w3
            simpa [tms,tmP] using this
          · rw [decide_eq_false a3] at k2
            rw [if_neg fun h=>a3 h.2.2] at en
            repeat' (first | refine Qh ?_ | refine Qb ?_ | refine QF ?_ | refine Qt ?_ | refine Xg ?_ | refine Qn ?_ | refine Qs ?_ | refine Qf ?_ | ((refine Qg ?_);first | refine Qk rfl ?_ | refine Qj rfl ?_) | ((refine Qe ?_);first | refine Qr rfl ?_ | refine Q7 rfl rfl rfl rfl rfl rfl rfl ?_ | refine Q5 rfl rfl rfl rfl rfl rfl rfl rfl ?_ | refine Q6 rfl rfl rfl rfl rfl rfl rfl rfl rfl ?_) | ((refine Qc ?_);first | refine QD (esz:=1) rfl rfl (by omega) ?_ | refine Xx rfl rd ?_ | (refine Qm rfl (k1 _) ?_;rintro v _ ⟨rfl,rfl⟩) | (refine Qm rfl (k2 _) ?_;rintro v _ ⟨rfl,rfl⟩) | (refine Y0 rfl rfl ?_) | (refine Xu rfl rfl c4 ?_;intro h3 w3) | refine QY rfl ?_ | refine Qp rfl ?_ | refine QT rfl rfl ?_ | refine XQ rfl ?_ | refine XW rfl ?_ | refine QK rfl rfl (by omega) ?_ | refine Qx rfl rfl (by omega) ?_ | refine Xq rfl rfl (by omega) ?_ | refine Xa rfl rfl (by omega) ?_))
            obtain ⟨r',s',b1,b2⟩:=bad en h3 w3
            exact Jz (.inr ⟨rfl,r',s',b1,b2,rfl⟩)
        · rw [if_neg fun h=>a2 h.2.1] at en
          repeat' (first | refine Qh ?_ | refine Qb ?_ | refine QF ?_ | refine Qt ?_ | refine Xg ?_ | refine Qn ?_ | refine Qs ?_ | refine Qf ?_ | ((refine Qg ?_);first | refine Qk rfl ?_ | refine Qj rfl ?_) | ((refine Qe ?_);first | refine Qr rfl ?_ | refine Q7 rfl rfl rfl rfl rfl rfl rfl ?_ | refine Q5 rfl rfl rfl rfl rfl rfl rfl rfl ?_ | refine Q6 rfl rfl rfl rfl rfl rfl rfl rfl rfl ?_) | ((refine Qc ?_);first | refine QD (esz:=1) rfl rfl (by omega) ?_ | refine Xx rfl rd ?_ | (refine Qm rfl (k1 _) ?_;rintro v _ ⟨rfl,rfl⟩) | (refine Y0 rfl rfl ?_) | (refine Xu rfl rfl c4 ?_;intro h3 w3) | refine Xn rfl ?_ | refine QY rfl ?_ | refine Qp rfl ?_ | refine Q1 rfl rfl ?_ | refine QT rfl rfl ?_ | refine XQ rfl ?_ | refine Qx rfl rfl (by omega) ?_ | refine XA rfl rfl (by omega) ?_ | refine Xa rfl rfl (by omega) ?_))
          obtain ⟨r',s',b1,b2⟩:=bad en h3 w3
          exact Jz (.inr ⟨rfl,r',s',b1,b2,rfl⟩)
      · rw [decide_eq_false a1] at k1
        rw [if_neg fun h=>a1 h.1] at en
        repeat' (first | refine Qh ?_ | refine Qb ?_ | refine QF ?_ | refine Qt ?_ | refine Xg ?_ | refine Qn ?_ | refine Qs ?_ | refine Qf ?_ | ((refine Qg ?_);first | refine Qk rfl ?_ | refine Qj rfl ?_) | ((refine Qe ?_);first | refine Qr rfl ?_ | refine Q7 rfl rfl rfl rfl rfl rfl rfl ?_ | refine Q5 rfl rfl rfl rfl rfl rfl rfl rfl ?_ | refine Q6 rfl rfl rfl rfl rfl rfl rfl rfl rfl ?_) | ((refine Qc ?_);first | refine QD (esz:=1) rfl rfl (by omega) ?_ | refine Xx rfl rd ?_ | (refine Qm rfl (k1 _) ?_;rintro v _ ⟨rfl,rfl⟩) | (refine Y0 rfl rfl ?_) | (refine Xu rfl rfl c4 ?_;intro h3 w3) | refine Xn rfl ?_ | refine Qp rfl ?_ | refine Q1 rfl rfl ?_ | refine XW rfl ?_ | refine Qx rfl rfl (by omega) ?_ | refine Xa rfl rfl (by omega) ?_))
        obtain ⟨r',s',b1,b2⟩:=bad en h3 w3
        exact Jz (.inr ⟨rfl,r',s',b1,b2,rfl⟩)
  · have:i=xs.length:=by omega
    subst this
    repeat' (first | refine Qh ?_ | refine Qb ?_ | refine QP ?_ | refine QL ?_ | refine Qf ?_ | ((refine Qg ?_);refine Qj rfl ?_) | ((refine Qe ?_);refine Q7 rfl rfl rfl rfl rfl rfl rfl ?_) | ((refine Qc ?_);refine QH rfl rfl (by omega) ?_))
    exact Yo (.inl ⟨rfl,r,s,_,_,_,_,_,hr,st,rfl⟩)
theorem QjK (h0:Qa) (low:Int) (hlow : -9223372036854775808≤low∧low≤9223372036854775807) (c:SV) (xs:List Int) (hn:xs.length≤1000000) (hc:IsInts h0 c xs) (hw:∀ x∈xs,-9223372036854775808≤x∧x≤9223372036854775807) :
    ∃ r h',Cal FT HKt 20 [.sc (.int .i64 low),.sc c] h0 r h'∧Ext h0 h'∧IsPol h' r (ofP low xs):=by
  refine Cal.of (F:=a20) rfl rfl rfl ?_
  have lc:=IsSl.len hc
  repeat' (first | refine Qh ?_ | refine Qb ?_ | refine Qt ?_ | refine Qf ?_ | ((refine Qe ?_);first | refine Qy rfl rfl rfl ?_ | refine QQ rfl rfl rfl rfl ?_ | refine QM rfl rfl rfl rfl rfl rfl ?_) | ((refine Qc ?_);first | (have z:=e1;refine Xm ?_;intro h2 e2 c2;have d1:=c1.ext e2) | (refine Xm ?_;intro h1 e1 c1) | refine QA rfl lc ?_ | refine Qp rfl ?_))
  have n1:=e1.len
  have n2:=c1.lt
  refine Z9 (I20 h0 h0.length h1.length low c xs) (cK [0,4,5,8,9,10] xs.length 10) (R20 h0 h0.length h1.length low xs) ⟨0,[],.nilS,Nat.zero_le _,rfl,⟨e1.trans e2,d1,c2,.inl ⟨rfl,rfl⟩,Nat.le_refl _,n1,by omega⟩,rfl⟩ (QbB h0 _ _ low hlow c xs hn hc hw) ?_
  rintro ex E' h3 (⟨rfl,r,s,a,b,c,d,e,hr,st,rfl⟩ | ⟨rfl,r,s,hr,st,rfl⟩)
  · have c5:=st.c5
    have c4:=st.c4
    repeat' (first | refine Qh ?_ | refine Qb ?_ | refine QE ?_ | refine Qs ?_ | refine Qf ?_ | ((refine Qe ?_);refine Qr rfl ?_) | ((refine Qc ?_);first | refine QN rfl c5 ?_ | (refine Xu rfl rfl c4 ?_;intro h4 w4)))
    refine ⟨.inr rfl,X1 rfl w4.cel.read ⟨w4.ext st.e st.l4,s,?_,?_⟩⟩
    · unfold ofP;rw [hr]
    · unfold ofP;rw [hr]
      exact (st.o.wrC w4).is
  · repeat' (first | refine QF ?_ | refine Xg ?_)
    refine ⟨.inr rfl,X1 rfl st.c4.read ⟨st.e,.nilS,?_,?_⟩⟩
    · unfold ofP;rw [hr]
    · unfold ofP;rw [hr]
      exact IsD.nil _
end Go.Proofs.YtofknpknogfijaaGreatDoor


namespace Go.Proofs.YtofknpknogfijaaGreatDoor
open Go.Ab
set_option linter.unusedVariables false
set_option linter.unusedSimpArgs false
set_option maxRecDepth 20000
set_option maxHeartbeats 4000000
attribute [local irreducible] Qi wA Xk Xj Qz Qo QS QV
set_option linter.unusedSectionVars false
variable [HB]
def I60 (h0:Qa) (s t:SV) (a b:List Tm) (E:Env) (h:Qa):Prop:=h=h0∧∃ i:Nat,i≤a.length∧a.take i=b.take i ∧
  E.keep [0,1,12,13]=[(0,some (.sc s)),(1,some (.sc t)),(12,some (.sc (.int .i64 (a.length:Nat)))),(13,some (.sc (.int .i64 (i:Nat))))]
def R60 (h0:Qa) (a b:List Tm) (ex:Ex) (E:Env) (h:Qa):Prop:=h=h0∧((ex=.ex 0∧a=b)∨(ex=.rt∧a≠b∧E=[(4,some (.sc (.bool false)))]))
theorem Qgf (h0:Qa) (s t:SV) (a b:List Tm) (hs:IsD h0 s (tms a)) (ht:IsD h0 t (tms b)) (hl:a.length=b.length) (hn:a.length≤3000000) (E:Env) (h:Qa) (hI:I60 h0 s t a b E h) :
    wA FT HKt QhN (E.keep [0,1,12,13]) h (Qz (I60 h0 s t a b) (cK [0,1,12,13] a.length 13) (cK [0,1,12,13] a.length 13 E h) (R60 h0 a b)):=by
  obtain ⟨rfl,i,hi,he,hE⟩:=hI
  have hm:cK [0,1,12,13] a.length 13 E h=a.length-i:=by unfold cK;rw [hE];rfl
  rw [hm,hE]
  by_cases hlt:i < a.length
  · obtain ⟨x,hx⟩:∃ x,a[i]?=some x:=⟨_,List.getElem?_eq_getElem hlt⟩
    obtain ⟨y,hy⟩:∃ y,b[i]?=some y:=⟨_,List.getElem?_eq_getElem (by omega)⟩
    obtain ⟨id1,o1,c1,e1,r1⟩:=hs.at (i:=i) (p:=tmP x) (by simp [hx])
    obtain ⟨id2,o2,c2,e2,r2⟩:=ht.at (i:=i) (p:=tmP y) (by simp [hy])
    rw [XD] at e1 e2
    subst e1 e2
    have b0:(0:Int)≤(i:Nat)∧((i:Nat):Int) < (b.length:Nat):=by omega
    by_cases hxy:x=y
    · subst hxy
      have e3:(x.1 == x.1 && x.2 == x.2)=true:=by simp
      repeat' (first | refine Qh ?_ | refine Qb ?_ | refine Qt ?_ | refine QC ?_ | refine Qn ?_ | refine Qf ?_ | refine Q9 ?_ | refine Xs ?_ | refine Xt ?_ | ((refine Qg ?_);first | refine Qk rfl ?_ | refine Qj rfl ?_) | ((refine Qe ?_);first | refine Xb ?_ | refine QQ rfl rfl rfl rfl ?_ | refine QU rfl rfl rfl rfl rfl ?_) | ((refine Qc ?_);first | refine QD (esz:=2) rfl rfl (by omega) ?_ | refine Yi rfl r1 ?_ | refine Yi rfl r2 ?_ | (refine Qei rfl rfl ?_;rw [e3]) | refine Qp rfl ?_ | refine QK rfl rfl (by omega) ?_ | refine Qx rfl rfl (by omega) ?_))
      refine Yd ⟨rfl,i+1,by omega,?_,rfl⟩ (by simp [cK,Env.keep,Env.get];omega)
      rw [List.take_add_one,List.take_add_one,he,hx,hy]
    · have e3:(x.1 == y.1 && x.2 == y.2)=false:=by
        rw [Bool.and_eq_false_iff]
        by_cases h1:x.1=y.1
        · exact .inr (by simpa using fun h2=>hxy (Prod.ext h1 h2))
        · exact .inl (by simpa using h1)
      repeat' (first | refine Qh ?_ | refine Qb ?_ | refine QF ?_ | refine Qt ?_ | refine Xg ?_ | refine Qn ?_ | refine Qs ?_ | refine Qf ?_ | refine Q9 ?_ | refine Xs ?_ | refine Xt ?_ | ((refine Qg ?_);refine Qk rfl ?_) | ((refine Qe ?_);first | refine Xb ?_ | refine Qr rfl ?_ | refine QU rfl rfl rfl rfl rfl ?_) | ((refine Qc ?_);first | refine QD (esz:=2) rfl rfl (by omega) ?_ | refine Yi rfl r1 ?_ | refine Yi rfl r2 ?_ | (refine Qei rfl rfl ?_;rw [e3]) | refine Qp rfl ?_ | refine Qx rfl rfl (by omega) ?_))
      exact Jz ⟨rfl,.inr ⟨rfl,fun h=>hxy (by rw [h,hy] at hx;exact (Option.some.inj hx).symm),rfl⟩⟩
  · have:i=a.length:=by omega
    subst this
    repeat' (first | refine Qh ?_ | refine Qb ?_ | refine QP ?_ | refine QL ?_ | refine Qf ?_ | ((refine Qg ?_);refine Qj rfl ?_) | ((refine Qe ?_);refine QU rfl rfl rfl rfl rfl ?_) | ((refine Qc ?_);refine QH rfl rfl (by omega) ?_))
    rw [List.take_length,hl,List.take_length] at he
    exact Yo ⟨rfl,.inl ⟨rfl,he⟩⟩
theorem Qjz (h0:Qa) (s t:SV) (a b:List Tm) (hs:IsD h0 s (tms a)) (ht:IsD h0 t (tms b)) (hn:a.length≤3000000):∃ r h',Cal FT HKt 60 [.sc s,.sc t] h0 r h'∧r=.sc (.bool (decide (a=b)))∧h'=h0:=by
  refine Cal.of (F:=a60) rfl rfl rfl ?_
  have ls:=hs.len
  have lt:=ht.len
  rw [XD] at ls lt
  by_cases hl:a.length=b.length
  · repeat' (first | refine Qh ?_ | refine Qb ?_ | refine Qt ?_ | refine Qn ?_ | refine Qf ?_ | ((refine Qg ?_);refine Qj rfl ?_) | ((refine Qe ?_);first | refine Qv rfl rfl ?_ | refine Qy rfl rfl rfl ?_ | refine QQ rfl rfl rfl rfl ?_) | ((refine Qc ?_);first | refine QA rfl ls ?_ | refine QA rfl lt ?_ | refine Qp rfl ?_ | refine XJ rfl rfl (by omega) ?_))
    refine Z9 (I60 h0 s t a b) (cK [0,1,12,13] a.length 13) (R60 h0 a b) ⟨rfl,0,Nat.zero_le _,rfl,rfl⟩ (Qgf h0 s t a b hs ht hl hn) ?_
    rintro ex E' h1 ⟨rfl,⟨rfl,he⟩ | ⟨rfl,he,rfl⟩⟩
    · rw [decide_eq_true he]
      repeat' (first | refine Qh ?_ | refine Qb ?_ | refine QE ?_ | refine Qs ?_ | refine Qf ?_ | ((refine Qe ?_);refine Qr rfl ?_) | ((refine Qc ?_);refine Qp rfl ?_))
      exact ⟨.inr rfl,rfl,rfl⟩
    · rw [decide_eq_false he]
      repeat' (first | refine QF ?_ | refine Xg ?_)
      exact ⟨.inr rfl,rfl,rfl⟩
  · rw [decide_eq_false fun h=>hl (by rw [h])]
    repeat' (first | refine Qh ?_ | refine Qb ?_ | refine QF ?_ | refine Qs ?_ | refine Qf ?_ | ((refine Qg ?_);refine Qk rfl ?_) | ((refine Qe ?_);first | refine Qr rfl ?_ | refine Qv rfl rfl ?_ | refine Qy rfl rfl rfl ?_) | ((refine Qc ?_);first | refine QA rfl ls ?_ | refine QA rfl lt ?_ | refine Qp rfl ?_ | refine XX rfl rfl (by omega) ?_))
    exact ⟨.inr rfl,rfl,rfl⟩
theorem QjJ (h0:Qa) (s t:SV) (p q:Pol) (hs:IsD h0 s (tms p.ts)) (ht:IsD h0 t (tms q.ts)) (hn:p.ts.length≤3000000):∃ r h',Cal FT HKt 23 [.agg [.bool p.big,s],.agg [.bool q.big,t]] h0 r h'∧Ext h0 h'∧r=.sc (.bool (decide (p=q))):=by
  refine Cal.of (F:=a23) rfl rfl rfl ?_
  have k46:=fun H (e:Ext h0 H)=>Qjz H s t p.ts q.ts (hs.ext e) (ht.ext e) hn
  obtain ⟨pb,pt⟩:=p
  obtain ⟨qb,qt⟩:=q
  simp only [Pol.mk.injEq] at *
  by_cases hb:pb=qb
  · subst hb
    simp only [true_and]
    have e3:(pb == pb)=true:=by simp
    repeat' (first | refine Qh ?_ | refine Qb ?_ | refine Qs ?_ | refine Qf ?_ | ((refine Qe ?_);first | refine Qr rfl ?_ | refine Qv rfl rfl ?_) | ((refine Qc ?_);first | (have z:=e1;refine QR rfl ?_;intro h2 e2 c2;have d1:=c1.ext e2) | (refine QR rfl ?_;intro h1 e1 c1) | refine Q4 rfl d1 ?_ | refine Q4 rfl c2 ?_ | refine Q0 rfl d1 ?_ | refine Q0 rfl c2 ?_ | (refine Uz rfl rfl ?_;simp only [Bool.false_eq_true,if_false,e3]) | (refine Qm rfl (k46 h2 (e1.trans e2)) ?_;rintro r _ ⟨rfl,rfl⟩) | refine QY rfl ?_ | refine Qp rfl ?_ | refine Q1 rfl rfl ?_ | refine XF rfl rfl ?_))
    exact ⟨.inr rfl,e1.trans e2,rfl⟩
  · have e3:(pb == qb)=false:=by simpa using hb
    rw [decide_eq_false fun h=>hb h.1]
    repeat' (first | refine Qh ?_ | refine Qb ?_ | refine Qs ?_ | refine Qf ?_ | ((refine Qe ?_);first | refine Qr rfl ?_ | refine Qv rfl rfl ?_) | ((refine Qc ?_);first | (have z:=e1;refine QR rfl ?_;intro h2 e2 c2;have d1:=c1.ext e2) | (refine QR rfl ?_;intro h1 e1 c1) | refine Q4 rfl d1 ?_ | refine Q4 rfl c2 ?_ | (refine Uz rfl rfl ?_;simp only [Bool.false_eq_true,if_false,e3]) | refine Xn rfl ?_ | refine Qp rfl ?_ | refine QT rfl rfl ?_ | refine XF rfl rfl ?_))
    exact ⟨.inr rfl,e1.trans e2,rfl⟩
end Go.Proofs.YtofknpknogfijaaGreatDoor

