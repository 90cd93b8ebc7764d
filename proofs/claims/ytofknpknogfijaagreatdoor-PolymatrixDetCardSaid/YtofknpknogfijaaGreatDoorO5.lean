/- The reference's polynomials: Of,Coef. -/
import Derived.Test.YtofknpknogfijaaGreatDoorQ0
import Derived.Test.YtofknpknogfijaaGreatDoorW2
import Derived.Lib.ItoaLen
import Derived.Lib.ItoaMem
namespace Go.Proofs.YtofknpknogfijaaGreatDoor
open Go.Ab
set_option linter.unusedVariables false
set_option linter.unusedSimpArgs false
set_option maxRecDepth 20000
set_option maxHeartbeats 4000000
attribute [local irreducible] Qj wA Xm Xk QI Qo QW QV
set_option linter.unusedSectionVars false
variable [HB]
section
variable {FT:FuncId→Option AFun} {HK:FuncId→Option Xe} {E:Env} {h:Qa} {K:Env→Qa→Prop} {d:Option Nat} {r:List AOp} {x:AO}
theorem yD {q:Nat} {a b v:SV} {p:AO} (ha:evS E p=some (.ptr q (0+0))) (hx:ev E x=some (.sc v)) (hc:Cel h q a b) (hw:∀ h1,Wr h h1 q v b→Qj FT HK r (Qr d none E) h1 K) :
    Qj FT HK (⟨d,.st 1 p x,none⟩::r) E h K :=
  QZ (v:=none) (h':=h.set q (.cells [v,b] true 0)) rfl rfl (by
    have hc':h[q]?=some (.cells [a,b] true 0):=hc
    simp [Ql,ha,hx,AV.cells,Xp,hc',Q1]) (hw _ ⟨rfl,_,_,hc⟩)
end
def IsRf (h:Qa) (v:AV) (p:Pol):Prop:=∃ s,v=.agg [s,.bool p.big]∧IsD h s (tms p.ts)
structure St27 (h0 h:Qa) (q4 q5:Nat) (b:Bool) (s:SV) (r:List Tm):Prop where
  e:Ext h0 h
  c4:Cel h q4 .nilS (.bool b)
  c5:Cel h q5 s (.bool false)
  o:OwnD h0 h s (tms r)
  l:h0.length≤q4∧q4 < q5
theorem St27.ext {h0 h h':Qa} {q4 q5:Nat} {b:Bool} {s:SV} {r:List Tm} (u:St27 h0 h q4 q5 b s r) (e:Ext h h'):St27 h0 h' q4 q5 b s r:=⟨u.e.trans e,u.c4.ext e,u.c5.ext e,u.o.ext e,u.l⟩
def I27 (h0:Qa) (q4 q5:Nat) (low:Int) (c:SV) (xs:List Int) (E:Env) (h:Qa):Prop:=∃ (i:Nat) (r:List Tm) (s:SV),i≤xs.length∧ofN low xs i=some r∧St27 h0 h q4 q5 false s r ∧
  E.keep [0,1,4,5,6]=[(0,some (.sc (.int .i64 low))),(1,some (.sc c)),(4,some (.sc (.ptr q4 0))),(5,some (.sc (.ptr q5 0))),(6,some (.sc (.int .i64 (i:Nat))))]
def R27 (h0:Qa) (q4 q5:Nat) (low:Int) (xs:List Int) (ex:Ex) (E:Env) (h:Qa):Prop :=
  (ex=.ex 0∧∃ r s a b c d,ofN low xs xs.length=some r∧St27 h0 h q4 q5 false s r∧E=[(0,a),(1,b),(4,some (.sc (.ptr q4 0))),(5,some (.sc (.ptr q5 0))),(6,c),(10,d)]) ∨
  (ex=.rt∧ofN low xs xs.length=none∧Ext h0 h∧Cel h q4 .nilS (.bool true)∧E=[(4,some (.sc (.ptr q4 0)))])
theorem Qhk (h0:Qa) (q4 q5:Nat) (low:Int) (c:SV) (xs:List Int) (hs:Qbi low xs) (hc:IsInts h0 c xs) (E:Env) (h:Qa) (hI:I27 h0 q4 q5 low c xs E h) :
    wA FT HKt Qjk (E.keep [0,1,4,5,6]) h (QI (I27 h0 q4 q5 low c xs) (cK [0,1,4,5,6] xs.length 6) (cK [0,1,4,5,6] xs.length 6 E h) (R27 h0 q4 q5 low xs)):=by
  obtain ⟨i,r,s,hi,hr,st,hE⟩:=hI
  have hm:cK [0,1,4,5,6] xs.length 6 E h=xs.length-i:=by unfold cK;rw [hE];rfl
  rw [hm,hE]
  have ls:=IsSl.len hc
  obtain ⟨n20,hl1,hl2,hxs⟩:=hs
  by_cases hlt:i < xs.length
  · obtain ⟨x,hx⟩:∃ x,xs[i]?=some x:=⟨_,List.getElem?_eq_getElem hlt⟩
    have hx2:xs.getD i 0=x:=by rw [List.getD_eq_getElem?_getD,hx];rfl
    obtain ⟨id,off,cap,rfl,rd0⟩:=IsInts.at hc hx
    have rd:=QA st.e rd0
    have c4:=st.c4
    have c5:=st.c5
    have l:=st.l
    by_cases hz:x=0
    · have en:ofN low xs (i+1)=some r:=by rw [ofN,hr,Option.bind_some,hx2,if_pos hz]
      subst hz
      repeat' (first | refine Qg ?_ | refine Qb ?_ | refine QK ?_ | refine Qt ?_ | refine QC ?_ | refine Qp ?_ | refine QH ?_ | refine Qf ?_ | ((refine Qh ?_);refine Qk rfl ?_) | ((refine Qe ?_);first | refine QO rfl rfl rfl rfl rfl ?_ | refine QD rfl rfl rfl rfl rfl rfl ?_) | ((refine Qc ?_);first | refine Qu rfl ls ?_ | refine Qx (esz:=1) rfl rfl (by omega) ?_ | refine Q2 rfl rd ?_ | refine Qm rfl ?_ | refine QM rfl rfl (by omega) ?_ | refine Qw rfl rfl (by omega) ?_ | refine Xt rfl rfl (by omega) ?_))
      exact Ym ⟨i+1,r,s,by omega,en,st,rfl⟩ (by simp [cK,Env.keep,Env.get];omega)
    by_cases a1:x.natAbs≤1125899906842624
    · have en:ofN low xs (i+1)=some (r++[(low+i,x)]):=by rw [ofN,hr,Option.bind_some,hx2,if_neg hz,if_pos ⟨a1,by simp only [eM];omega,by simp only [eM];omega⟩]
      have hrl:=Qcq hr
      repeat' (first | refine Qg ?_ | refine Qb ?_ | refine Qt ?_ | refine QG ?_ | refine Qp ?_ | refine Qf ?_ | refine Xb ?_ | refine Xq ?_ | refine Xr ?_ | ((refine Qh ?_);first | refine Qk rfl ?_ | refine Qi rfl ?_) | ((refine Qe ?_);first | refine Xd ?_ | refine XI ?_ | refine XD (by assumption) ?_ | refine QO rfl rfl rfl rfl rfl ?_ | refine QD rfl rfl rfl rfl rfl rfl ?_) | ((refine Qc ?_);first | refine Qu rfl ls ?_ | refine Qx (esz:=1) rfl rfl (by omega) ?_ | refine Q2 rfl rd ?_ | refine QQ rfl ?_ | refine Q6 rfl c5 ?_ | (refine X5 rfl rfl ?_) | (refine JE rfl ?_;intro h8 e8 src8;have st8:=st.ext e8) | (refine ZK st8.e st8.o rfl rfl src8 (by rw [Xg];simp only [XQ];omega) ?_;intro s' h2 o2 e2 f2 l2;have d5:=st8.c5.fram f2 (st8.o.cel st8.c5);have d4:=st8.c4.fram f2 (st8.o.cel st8.c4)) | (refine yD rfl rfl d5 ?_;intro h3 w3) | refine QX rfl ?_ | refine Qm rfl ?_ | refine QU rfl rfl ?_ | refine QM rfl rfl (by omega) ?_ | refine Qw rfl rfl (by omega) ?_ | refine QE rfl rfl (by omega) ?_ | refine XA rfl rfl (by omega) ?_ | refine Xh rfl rfl (by omega) ?_))
      refine Ym ⟨i+1,_,s',by omega,en,⟨w3.ext e2 (by omega),w3.keep d4 (by omega),w3.cel,?_,l⟩,rfl⟩ (by simp [cK,Env.keep,Env.get];omega)
      have:=o2.wrC w3
      simpa [tms,tmP] using this
    · have en:ofN low xs (i+1)=none:=by rw [ofN,hr,Option.bind_some,hx2,if_neg hz,if_neg (fun h=>a1 h.1)]
      by_cases a2:x < -1125899906842624
      · repeat' (first | refine Qg ?_ | refine Qb ?_ | refine QL ?_ | refine Qt ?_ | refine Q9 ?_ | refine Qp ?_ | refine Qv ?_ | refine Qf ?_ | ((refine Qh ?_);first | refine Qk rfl ?_ | refine Qi rfl ?_) | ((refine Qe ?_);first | refine Qq rfl ?_ | refine QD rfl rfl rfl rfl rfl rfl ?_) | ((refine Qc ?_);first | refine Qu rfl ls ?_ | refine Qx (esz:=1) rfl rfl (by omega) ?_ | refine Q2 rfl rd ?_ | (refine X5 rfl rfl ?_) | (refine Xw rfl rfl c4 ?_;intro h3 w3) | refine Xo rfl ?_ | refine Qm rfl ?_ | refine QY rfl rfl ?_ | refine Qw rfl rfl (by omega) ?_ | refine Xh rfl rfl (by omega) ?_))
        exact Jr (.inr ⟨rfl,qT (by omega) en,w3.ext st.e l.1,w3.cel,rfl⟩)
      · repeat' (first | refine Qg ?_ | refine Qb ?_ | refine QL ?_ | refine Qt ?_ | refine Q9 ?_ | refine Qp ?_ | refine Qv ?_ | refine Qf ?_ | ((refine Qh ?_);first | refine Qk rfl ?_ | refine Qi rfl ?_) | ((refine Qe ?_);first | refine Qq rfl ?_ | refine QD rfl rfl rfl rfl rfl rfl ?_) | ((refine Qc ?_);first | refine Qu rfl ls ?_ | refine Qx (esz:=1) rfl rfl (by omega) ?_ | refine Q2 rfl rd ?_ | (refine X5 rfl rfl ?_) | (refine Xw rfl rfl c4 ?_;intro h3 w3) | refine Xo rfl ?_ | refine QX rfl ?_ | refine Qm rfl ?_ | refine QY rfl rfl ?_ | refine QU rfl rfl ?_ | refine Qw rfl rfl (by omega) ?_ | refine QE rfl rfl (by omega) ?_ | refine XG rfl rfl (by omega) ?_ | refine Xh rfl rfl (by omega) ?_))
        exact Jr (.inr ⟨rfl,qT (by omega) en,w3.ext st.e l.1,w3.cel,rfl⟩)
  · have:i=xs.length:=by omega
    subst this
    repeat' (first | refine Qg ?_ | refine Qb ?_ | refine QK ?_ | refine QH ?_ | refine Qf ?_ | ((refine Qh ?_);refine Qi rfl ?_) | ((refine Qe ?_);refine QD rfl rfl rfl rfl rfl rfl ?_) | ((refine Qc ?_);first | refine Qu rfl ls ?_ | refine Qm rfl ?_ | refine QE rfl rfl (by omega) ?_))
    exact Yx (.inl ⟨rfl,r,s,_,_,_,_,hr,st,rfl⟩)
end Go.Proofs.YtofknpknogfijaaGreatDoor


namespace Go.Proofs.YtofknpknogfijaaGreatDoor
open Go.Ab
set_option linter.unusedVariables false
set_option linter.unusedSimpArgs false
set_option linter.unusedSectionVars false
variable [HB]
theorem QfA {cs vs:List SV} {off N l m:Nat} (h:cut cs off N=some vs) (hm:l+m≤N):cut cs (off+l) m=some ((vs.drop l).take m):=by
  unfold cut at h ⊢
  split at h
  · simp only [Option.some.injEq] at h
    rw [if_pos (by omega),← h,List.drop_take,List.drop_drop,List.take_take,Nat.min_eq_left (by omega)]
  · cases h
theorem Vj {h:Qa} {s:SV} {e:ESz} {n l u:Nat} {vs:List SV} (hs:IsSl h s e n vs) (hl:l≤u) (hu:u≤n) :
    ∃ s',(∀ (_:e.n=1),YU l u s=some s')∧YE h e l u s=some s'∧IsSl h s' e (u-l) ((vs.drop (l*e.n)).take ((u-l)*e.n)):=by
  rcases hs with ⟨rfl,rfl,rfl⟩ | ⟨id,off,cap,b,rfl,h1,h2,h3,h4⟩
  · have:l=0∧u=0:=by omega
    obtain ⟨rfl,rfl⟩:=this
    exact ⟨.nilS,fun _=>by simp [YU],by simp [YE],.inl ⟨rfl,rfl,by simp⟩⟩
  · refine ⟨.slc id (off+l*e.n) (u-l) (cap.map (· - l)),fun h1e=>?_,?_,.inr ⟨id,_,_,b,rfl,h1,h2,fun h0=>by simp [h0],fun h0=>?_⟩⟩
    · simp [YU,hl,hu,h1e]
    · simp [YE,h1,h2,hl,hu]
    · obtain ⟨cs,rw',rfl,hc⟩:=h4 (by omega)
      refine ⟨cs,rw',rfl,QfA hc ?_⟩
      rw [← Nat.add_mul]
      exact Nat.mul_le_mul_right _ (by omega)
theorem QkS {h:Qa} {s:SV} {xs:List Int} {u:Nat} (hs:IsInts h s xs) (hu:u≤xs.length):∃ s',YU 0 u s=some s'∧IsInts h s' (xs.take u):=by
  obtain ⟨s',h1,-,h3⟩:=Vj (l:=0) (u:=u) hs (Nat.zero_le _) hu
  refine ⟨s',h1 rfl,?_⟩
  unfold IsInts
  rw [List.length_take,Nat.min_eq_left hu,List.map_take]
  have e1:((1:ESz)).n=1:=rfl
  rw [e1] at h3
  simpa using h3
theorem Qfa {h:Qa} {s:SV} {xs:List Int} {l:Nat} (hs:IsInts h s xs) (hl:l≤xs.length):∃ s',YU l xs.length s=some s'∧IsInts h s' (xs.drop l):=by
  obtain ⟨s',h1,-,h3⟩:=Vj (l:=l) (u:=xs.length) hs hl (Nat.le_refl _)
  refine ⟨s',h1 rfl,?_⟩
  unfold IsInts
  rw [List.length_drop,List.map_drop]
  have e1:((1:ESz)).n=1:=rfl
  rw [e1,List.take_of_length_le (by simp)] at h3
  simpa using h3
theorem prsTo {h:Qa} {s:SV} {ps:List P2} {u:Nat} (hs:IsD h s ps) (hu:u≤ps.length):∃ s',YE h 2 0 u s=some s'∧IsD h s' (ps.take u):=by
  obtain ⟨s',-,h2,h3⟩:=Vj (l:=0) (u:=u) hs (Nat.zero_le _) hu
  refine ⟨s',h2,?_⟩
  unfold IsD
  rw [List.length_take,Nat.min_eq_left hu,qL]
  have e1:((2:ESz)).n=2:=rfl
  rw [e1] at h3
  simpa using h3
theorem Qhz {h:Qa} {s:SV} {ps:List P2} {l:Nat} (hs:IsD h s ps) (hl:l≤ps.length):∃ s',YE h 2 l ps.length s=some s'∧IsD h s' (ps.drop l):=by
  obtain ⟨s',-,h2,h3⟩:=Vj (l:=l) (u:=ps.length) hs hl (Nat.le_refl _)
  refine ⟨s',h2,?_⟩
  unfold IsD
  rw [List.length_drop,zV]
  have e1:((2:ESz)).n=2:=rfl
  rw [e1,List.take_of_length_le (by rw [List.length_drop,Z6];omega)] at h3
  exact h3
theorem srcD {h:Qa} {t:SV} {ps:List P2} (ht:IsD h t ps):Xi h 2 t=some (ps.length,prs ps):=by
  rcases ht with ⟨rfl,h1,h2⟩ | ⟨id,off,cap,b,rfl,h1,h2,h3,h4⟩
  · rw [h1,h2];rfl
  · simp only [Xi]
    by_cases h0:ps.length=0
    · rw [if_pos h0,h0,h3 h0]
    · obtain ⟨cs,rw',rfl,hc⟩:=h4 (by omega)
      have e1:((2:ESz)).n=2:=rfl
      rw [e1] at hc
      rw [if_neg h0]
      simp [QT,h1,hc]
theorem appDs {h0 h:Qa} {s:SV} {ps ws:List P2} {bytes:Nat} (he:Ext h0 h) (ho:OwnD h0 h s ps) (hb:(ps.length+ws.length)*(bytes+1)≤XQ) :
    ∃ s' h',YP h 2 bytes s ws.length (prs ws)=some (s',h')∧OwnD h0 h' s' (ps++ws)∧Ext h0 h'∧h.length≤h'.length∧Fram h h' s s':=by
  by_cases hw:ws.length=0
  · have:ws=[]:=List.eq_nil_of_length_eq_zero hw
    subst this
    refine ⟨s,h,?_,by rw [List.append_nil];exact ho,he,Nat.le_refl _,fun j b hj hn=>⟨hj,hn⟩⟩
    rcases ho with ⟨rfl,rfl⟩ | ⟨id,cap,bl,rfl,h1,h2,h3,h4⟩ <;> simp [YP]
  have hl:=he.len
  have hp:prs (ps++ws)=prs ps++prs ws:=zn _ _
  have hpl:(ps++ws).length=ps.length+ws.length:=by simp
  have hpr:=Z6 ps
  have hwr:=Z6 ws
  rcases ho with ⟨rfl,rfl⟩ | ⟨id,cap,bl,rfl,h1,h2,h3,h4⟩
  · refine ⟨.slc h.length 0 ws.length none,h++[.cells (prs ws) true 2],?_,.inr ⟨h.length,none,prs ws,rfl,hl,by simp,by rw [List.nil_append,List.take_of_length_le (by rw [hwr];exact Nat.le_refl _)],by simp [RoomD,hwr]⟩,he.app _,by simp,fun j b' hj hn=>?_⟩
    · simp only [YP]
      rw [if_neg hw,if_pos (by simpa using hb)]
    · have hjl:=(List.getElem?_eq_some_iff.1 hj).1
      exact ⟨XV j b' hj,fun o n c hc=>by cases hc;omega⟩
  · have hid:id < h.length:=(List.getElem?_eq_some_iff.1 h2).1
    have hle:=h4.le
    have hcut:cut bl 0 (ps.length*2)=some (prs ps):=by
      unfold cut
      rw [if_pos (by omega),List.drop_zero,h3]
    have fresh:∀ (j:Nat) (b:Blk),h[j]?=some b→∀ k,XS (SV.slc h.length 0 k none) j:=by
      intro j b hj k o n c hc
      have:=(List.getElem?_eq_some_iff.1 hj).1
      cases hc;omega
    cases cap with
    | none =>
      refine ⟨.slc h.length 0 (ps.length+ws.length) none,h.set id (.dead 2)++[.cells (prs ps++prs ws) true 2],?_,?_,(he.set h1 _).app _,by simp,?_⟩
      · simp only [YP]
        rw [if_neg hw,if_pos hb,h2]
        simp only [if_true,ez2,hcut]
        rw [if_pos ⟨trivial,.inl rfl⟩]
      · refine .inr ⟨h.length,none,prs ps++prs ws,by rw [hpl],hl,?_,?_,by simp [RoomD,hpr,hwr];omega⟩
        · rw [List.getElem?_append_right (by simp)];simp
        · rw [hp,List.take_of_length_le (by simp [hpr,hwr];omega)]
      · intro j b' hj hn
        have hne:id≠j:=fun e=>by subst e;exact hn _ _ _ rfl
        refine ⟨XV j b' ?_,fresh j b' hj _⟩
        rw [List.getElem?_set_ne hne];exact hj
    | some c =>
      obtain ⟨h5,h6⟩:=h4
      by_cases hc:c < ps.length+ws.length
      · refine ⟨.slc h.length 0 (ps.length+ws.length) none,h++[.cells (prs ps++prs ws) true 2],?_,?_,he.app _,by simp,?_⟩
        · simp only [YP]
          rw [if_neg hw,if_pos hb,h2]
          simp only [if_true,ez2,hcut]
          rw [if_pos hc]
        · refine .inr ⟨h.length,none,prs ps++prs ws,by rw [hpl],hl,?_,?_,by simp [RoomD,hpr,hwr];omega⟩
          · rw [List.getElem?_append_right (Nat.le_refl _)];simp
          · rw [hp,List.take_of_length_le (by simp [hpr,hwr];omega)]
        · exact fun j b' hj hn=>⟨XV j b' hj,fresh j b' hj _⟩
      · have hsl:(Q1 bl (0+ps.length*2) (prs ws)).length=c*2:=by simp [Q1];omega
        refine ⟨.slc id 0 (ps.length+ws.length) (some c),h.set id (.cells (Q1 bl (0+ps.length*2) (prs ws)) true 2),?_,?_,he.set h1 _,by simp,?_⟩
        · simp only [YP]
          rw [if_neg hw,if_pos hb,h2]
          simp only [if_true,ez2,hcut]
          rw [if_neg hc]
          simp only [Xp,h2]
          rw [if_pos (by simp;omega)];rfl
        · refine .inr ⟨id,some c,Q1 bl (0+ps.length*2) (prs ws),by rw [hpl],h1,List.getElem?_set_self hid,?_,?_⟩
          · rw [hp,hpl]
            simp only [Q1,Nat.zero_add]
            rw [h3,List.take_append_of_le_length (by simp [hpr,hwr];omega),List.take_of_length_le (by simp [hpr,hwr];omega)]
          · rw [hpl];exact ⟨hsl,by omega⟩
        · intro j b' hj hn
          have hne:id≠j:=fun e=>by subst e;exact hn _ _ _ rfl
          refine ⟨?_,fun o n c' e=>hn _ _ _ (by cases e;rfl)⟩
          rw [List.getElem?_set_ne hne];exact hj
section
variable {FT:FuncId→Option AFun} {HK:FuncId→Option Xe} {E:Env} {h h0:Qa} {K:Env→Qa→Prop} {d:Option Nat} {r:List AOp} {x y lo hi:AO}
theorem QhQ {z0 z1:SV} (hw:∀ h1,Ext h h1→OwnD h h1 (.slc h.length 0 0 (some 0)) []→Qj FT HK r (Qr d (some (.sc (.slc h.length 0 0 (some 0)))) E) h1 K):Qj FT HK (⟨d,.bsl 2 [z0,z1] 0 [],none⟩::r) E h K :=
  QZ (v:=some (.sc (.slc h.length 0 0 (some 0)))) (h':=h++[.cells [] true 2]) rfl rfl (by simp [Ql,XJ,YL,rep]) (hw _ ⟨_,rfl⟩ (.inr ⟨h.length,some 0,[],rfl,Nat.le_refl _,by simp,by simp [prs],by simp [RoomD]⟩))
theorem zu {bytes:Nat} {s t:SV} {ps ws:List P2} {z2:List SV} (he:Ext h0 h) (ho:OwnD h0 h s ps) (hs:evS E x=some s) (hy:evS E y=some t) (ht:IsD h t ws) (hb:(ps.length+ws.length)*(bytes+1)≤XQ)
    (hw:∀ s' h',OwnD h0 h' s' (ps++ws)→Ext h0 h'→Fram h h' s s'→h.length≤h'.length→Qj FT HK r (Qr d (some (.sc s')) E) h' K) :
    Qj FT HK (⟨d,.app 2 bytes z2 x y,none⟩::r) E h K:=by
  obtain ⟨s',h',h1,h2,h3,h4,h5⟩:=appDs (bytes:=bytes) he ho hb
  refine QZ (v:=some (.sc s')) (h':=h') rfl rfl ?_ (hw s' h' h2 h3 h5 h4)
  simp only [Ql,hs,hy,Option.bind_some,ez2,srcD ht,h1,Option.map_some]
end
end Go.Proofs.YtofknpknogfijaaGreatDoor



namespace Go.Proofs.YtofknpknogfijaaGreatDoor
open Go.Ab
set_option linter.unusedVariables false
set_option maxRecDepth 20000
attribute [local irreducible] Qj wA Xm Xk QI QW
set_option linter.unusedSectionVars false
variable [HB]
structure Kq (h:Qa) (B:Nat) (s:SV) (q:Nat) (c:Blk):Prop where
  at':h[q]?=some c
  ne:q≠B
  no:XS s q
def BLq (h0 h:Qa) (B:Nat) (bs:List UInt8) (q:Nat) (c:Blk):Prop :=
  ∃ p s,h[B]?=some (.cells [p,s] true ⟨0,some 77⟩)∧(p=.nilP∨p=.ptr B 0)∧h0.length≤B∧OwnZ bz h0 h s (u8s bs)∧XS s B∧Ext h0 h∧Kq h B s q c
theorem BLq.bl {h0 h:Qa} {B:Nat} {bs:List UInt8} {q:Nat} {c:Blk} (hb:BLq h0 h B bs q c):BL h0 h B bs:=by
  obtain ⟨p,s,h1,h2,h3,h4,h5,h6,-⟩:=hb
  exact ⟨p,s,h1,h2,h3,h4,h5,h6⟩
theorem BLq.at {h0 h:Qa} {B:Nat} {bs:List UInt8} {q:Nat} {c:Blk} (hb:BLq h0 h B bs q c):h[q]?=some c:=by
  obtain ⟨p,s,h1,h2,h3,h4,h5,h6,h7⟩:=hb
  exact h7.at'
theorem BLq.of {h0 h h1:Qa} {B:Nat} {bs:List UInt8} {c:Blk} (hb:BL h0 h B bs) (he:Ext h h1) (hc:h1[h.length]?=some c):BLq h0 h1 B bs h.length c:=by
  obtain ⟨p,s,g1,g2,g3,g4,g5,g6⟩:=hb
  refine ⟨p,s,he.get _ _ g1,g2,g3,g4.ext he,g5,g6.trans he,hc,?_,?_⟩
  · have:=(List.getElem?_eq_some_iff.1 g1).1;omega
  · intro o n c' e
    rcases g4 with ⟨rfl,-⟩ | ⟨id,cap,cs,rfl,-,-,k,-⟩
    · cases e
    · have:=(List.getElem?_eq_some_iff.1 k).1
      injection e with e1
      omega
theorem Qa2 {h0 h:Qa} {B:Nat} {bs:List UInt8} {q:Nat} {c:Blk} (hb:BLq h0 h B bs q c):∃ v h',Cal FT HKt 78 [.sc (.ptr B 0)] h v h'∧v=.tup []∧∃ s,BLS h0 h' B s bs∧Kq h' B s q c∧QT h' B (0+1) 1=some [s]:=by
  obtain ⟨p,s,h1,hp,h2,h3,h4,h5,hk⟩:=hb
  have hB:B < h.length:=(List.getElem?_eq_some_iff.1 h1).1
  rcases hp with rfl | rfl
  · refine ⟨_,h.set B (.cells [.ptr B 0,s] true ⟨0,some 77⟩),Cal.hook (g:=Zy 77) rfl (by simp only [Zy,h1,if_true]),rfl,s,⟨⟨s,by rw [List.getElem?_set_self hB]⟩,h2,h3.away h4 _,h4,h5.set h2 _⟩,⟨by rw [List.getElem?_set_ne (fun e=>hk.ne e.symm)];exact hk.at',hk.ne,hk.no⟩,?_⟩
    simp only [QT,List.getElem?_set_self hB,cut];rfl
  · refine ⟨_,h,Cal.hook (g:=Zy 77) rfl (by simp only [Zy,h1];rw [if_pos (by simp)]),rfl,s,⟨⟨s,h1⟩,h2,h3,h4,h5⟩,hk,?_⟩
    simp only [QT,h1,cut];rfl
theorem Kq.grow {h h':Qa} {B:Nat} {s:SV} {q:Nat} {c:Blk} (k:Kq h B s q c) (he:Ext h h'):Kq h' B s q c:=⟨he.get _ _ k.at',k.ne,k.no⟩
theorem Qd3 {h0 h:Qa} {B:Nat} {s:SV} {bs:List UInt8} {q:Nat} {c:Blk} (hb:BLS h0 h B s bs) (k:Kq h B s q c):∃ h',Xp h B (0+1) [s]=some h'∧BLq h0 h' B bs q c:=by
  obtain ⟨x,hq⟩:=hb.blk
  have hB:B < h.length:=(List.getElem?_eq_some_iff.1 hq).1
  refine ⟨h.set B (.cells [.ptr B 0,s] true ⟨0,some 77⟩),?_,.ptr B 0,s,by rw [List.getElem?_set_self hB],.inr rfl,hb.low,hb.own.away hb.not _,hb.not,hb.ext.set hb.low _,by rw [List.getElem?_set_ne (fun e=>k.ne e.symm)];exact k.at',k.ne,k.no⟩
  simp only [Xp,hq]
  rw [if_pos (by simp)]
  simp [Q1]
section
variable {FT:FuncId→Option AFun} {HK:FuncId→Option Xe} {E:Env} {h:Qa} {K:Env→Qa→Prop} {d:Option Nat} {r:List AOp} {x y:AO}
theorem QcC {h0:Qa} {B:Nat} {s t:SV} {bs cs:List UInt8} {bytes:Nat} {zz:List SV} {q:Nat} {c:Blk} (hb:BLS h0 h B s bs) (k:Kq h B s q c) (hx:evS E x=some s) (hy:evS E y=some t) (hs:Xi h 1 t=some (cs.length,u8s cs)) (hl:(bs.length+cs.length)*(bytes+1)≤XQ)
    (hw:∀ s' h',BLS h0 h' B s' (bs++cs)→Kq h' B s' q c→Qj FT HK r (Qr d (some (.sc s')) E) h' K):Qj FT HK (⟨d,.app bz bytes zz x y,none⟩::r) E h K:=by
  obtain ⟨s',h',h1,h2,h3,h4,h5⟩:=QeG (z:=bz) (ws:=u8s cs) (bytes:=bytes) rfl hb.ext hb.own (by rw [qD,qD];exact hl)
  obtain ⟨p,hq⟩:=hb.blk
  obtain ⟨k1,k2⟩:=h5 B _ hq hb.not
  obtain ⟨m1,m2⟩:=h5 q _ k.at' k.no
  refine QZ (v:=some (.sc s')) (h':=h') rfl rfl ?_ (hw s' h' ⟨⟨p,k1⟩,hb.low,by rw [QgU];exact h2,k2,h3⟩ ⟨m1,k.ne,m2⟩)
  rw [qD] at h1
  simp only [Ql,hx,hy,Option.bind_some,hs,h1]
  rfl
end
theorem VW (h0 h:Qa) (B:Nat) (bs:List UInt8) (c:UInt8) (q:Nat) (k:Blk) (hb:BLq h0 h B bs q k) (hl:bs.length≤1000000) :
    ∃ v h',Cal FT HKt 41 [.sc (.ptr B 0),.sc (.int .u8 (c.toNat:Int))] h v h'∧v=.sc .nilI∧BLq h0 h' B (bs++[c]) q k:=by
  refine Cal.of (F:=a41) rfl rfl rfl ?_
  repeat' (first | refine Qg ?_ | refine Qb ?_ | refine Qv ?_ | refine Qf ?_ | ((refine Qe ?_);first | refine Jt ?_ | refine Qq rfl ?_ | refine Qy rfl rfl ?_) | ((refine Qc ?_);first | (refine Qn rfl (Qa2 hb) ?_;rintro v h1 ⟨rfl,s,s1,q1,r1⟩) | refine VF rfl ?_ | refine QQ rfl ?_ | refine Q2 rfl r1 ?_ | (refine QkK rfl rfl ?_;intro ee;have s2:=s1.grow ee;have q2:=q1.grow ee) | (refine QcC (cs:=[c]) s2 q2 rfl rfl src_z (by simp [XQ];omega) ?_;intro s' h2 s3 q3;obtain ⟨h3,w3,b3⟩:=Qd3 s3 q3) | refine QiN rfl rfl w3 ?_ | refine Qm rfl ?_))
  exact ⟨.inr rfl,rfl,b3⟩
theorem zB (h0 h:Qa) (B:Nat) (bs cs:List UInt8) (q:Nat) (k:Blk) (hb:BLq h0 h B bs q k) (hl:bs.length≤1000000) (hc:cs.length≤1000000) :
    ∃ v h',Cal FT HKt 42 [.sc (.ptr B 0),.sc (tb cs)] h v h'∧BLq h0 h' B (bs++cs) q k:=by
  refine Cal.of (F:=a42) rfl rfl rfl ?_
  repeat' (first | refine Qg ?_ | refine Qb ?_ | refine Qv ?_ | refine Qf ?_ | ((refine Qe ?_);first | refine Qq rfl ?_ | refine Qy rfl rfl ?_) | ((refine Qc ?_);first | (refine Qn rfl (Qa2 hb) ?_;rintro v h1 ⟨rfl,s,s1,q1,r1⟩) | refine VF rfl ?_ | refine QQ rfl ?_ | refine Q2 rfl r1 ?_ | (refine QcC (cs:=cs) s1 q1 rfl rfl (Qj4 _ cs) (by simp only [XQ];omega) ?_;intro s' h2 s3 q3;obtain ⟨h3,w3,b3⟩:=Qd3 s3 q3) | refine QiN rfl rfl w3 ?_ | refine QkG rfl ?_ | refine Qm rfl ?_))
  exact ⟨.inr rfl,b3⟩
end Go.Proofs.YtofknpknogfijaaGreatDoor


namespace Go.Proofs.YtofknpknogfijaaGreatDoor
open Go.Ab
set_option linter.unusedVariables false
set_option linter.unusedSimpArgs false
set_option maxRecDepth 20000
set_option maxHeartbeats 4000000
attribute [local irreducible] Qj wA Xm Xk QI Qo QW QV
set_option linter.unusedSectionVars false
variable [HB]
end Go.Proofs.YtofknpknogfijaaGreatDoor


namespace Go.Proofs.YtofknpknogfijaaGreatDoor
open Go.Ab
set_option linter.unusedVariables false
set_option linter.unusedSimpArgs false
set_option maxRecDepth 20000
set_option maxHeartbeats 4000000
attribute [local irreducible] Qj wA Xm Xk QI Qo QW QV
set_option linter.unusedSectionVars false
variable [HB]
def Us (nm:List UInt8) (c e:Int):List UInt8:=(if c≠1∨e=0 then Lib.itoa c else [])++((if e≠0 then nm else [])++(if e≠0∧e≠1 then [94]++Lib.itoa e else []))
def tTx (nm:List UInt8) (i:Nat) (t:Tm):List UInt8:=if t.2 < 0 then [45]++Us nm (-t.2) t.1 else if 0 < i then [43]++Us nm t.2 t.1 else Us nm t.2 t.1
def qF (nm:List UInt8) (ts:List Tm):Nat→List UInt8
  | 0=>[]
  | i+1=>qF nm ts i++tTx nm i (ts.getD i (0,0))
def JX (nm:List UInt8) (p:Pol):List UInt8:=if p.big then [98,105,103] else if p.ts=[] then [48] else qF nm p.ts p.ts.length
theorem yt {nm:List UInt8} {ts:List Tm} {i:Nat} {t:Tm} (h:ts[i]?=some t):qF nm ts (i+1)=qF nm ts i++tTx nm i t:=by
  rw [qF,List.getD_eq_getElem?_getD,h];rfl
theorem Jc {x:Int} (h:x.natAbs≤1125899906842624):(Lib.itoa x).length≤22:=by
  have:=Lib.itoa_length_le x (by omega) (by omega)
  omega
theorem U8 {nm:List UInt8} (hn:nm.length≤40) {c e:Int} (hc:c.natAbs≤1125899906842624) (he:e.natAbs≤1048576):(Us nm c e).length≤85:=by
  have h1:=Jc hc
  have h2:=Jc (x:=e) (by omega)
  unfold Us
  rw [List.length_append,List.length_append]
  have a:(if c≠1∨e=0 then Lib.itoa c else []).length≤22:=by split;exact h1;exact Nat.zero_le _
  have b:(if e≠0 then nm else []).length≤40:=by split;exact hn;exact Nat.zero_le _
  have d:(if e≠0∧e≠1 then [94]++Lib.itoa e else []).length≤23:=by
    split
    · rw [List.length_append,List.length_singleton];omega
    · exact Nat.zero_le _
  omega
theorem Qg0 {nm:List UInt8} (hn:nm.length≤40) {t:Tm} (hc:t.2.natAbs≤1125899906842624) (he:t.1.natAbs≤1048576) (i:Nat):(tTx nm i t).length≤86:=by
  have h1:=U8 hn hc he
  have h2:=U8 hn (c := -t.2) (by omega) he
  unfold tTx
  split
  · rw [List.length_append,List.length_singleton];omega
  · split
    · rw [List.length_append,List.length_singleton];omega
    · omega
theorem qE {nm:List UInt8} (hn:nm.length≤40) {ts:List Tm} (hc:∀ t∈ts,t.2.natAbs≤cM) (he:∀ t∈ts,t.1.natAbs≤eM):∀ i,i≤ts.length→(qF nm ts i).length≤86*i
  | 0,_=>Nat.le_refl _
  | i+1,h=>by
    obtain ⟨t,ht⟩:∃ t,ts[i]?=some t:=⟨_,List.getElem?_eq_getElem (by omega)⟩
    have h1:=qE hn hc he i (by omega)
    have h2:=Qg0 hn (hc t (List.mem_of_getElem? ht)) (he t (List.mem_of_getElem? ht)) i
    rw [yt ht,List.length_append];omega
theorem Qlf (h0:Qa):∀ (k n:Nat),n≤k→n≤1125899906842624→∃ v h',Cal FT HKt 45 [.sc (.int .i64 (n:Int))] h0 v h'∧h'=h0∧v=.sc (tb (Lib.decDigits n)):=by
  intro k
  induction k with
  | zero =>
    intro n hn _
    have hn0:n=0:=by omega
    subst hn0
    refine Cal.of (F:=a45) rfl rfl rfl ?_
    rw [Lib.decDigits_one (by decide)]
    repeat' (first | refine Qg ?_ | refine Qb ?_ | refine QL ?_ | refine Qp ?_ | refine Qv ?_ | refine Qf ?_ | ((refine Qh ?_);first | refine Qk rfl ?_ | refine Qi rfl ?_) | ((refine Qe ?_);first | refine Qq rfl ?_ | refine Qy rfl rfl ?_ | refine QB rfl rfl rfl ?_) | ((refine Qc ?_);first | refine Qe5 rfl rfl rfl (by omega) ?_ | refine Qm rfl ?_ | refine QM rfl rfl (by omega) ?_ | refine Zw rfl rfl (by omega) ?_ | refine Qw rfl rfl (by omega) ?_ | refine QE rfl rfl (by omega) ?_))
    exact ⟨.inr rfl,rfl,rfl⟩
  | succ k ih =>
    intro n hn hb
    refine Cal.of (F:=a45) rfl rfl rfl ?_
    by_cases h:n < 10
    · rw [Lib.decDigits_one h]
      have e1:((n:Int)%10).toNat=n:=by omega
      repeat' (first | refine Qg ?_ | refine Qb ?_ | refine QL ?_ | refine Qp ?_ | refine Qv ?_ | refine Qf ?_ | ((refine Qh ?_);first | refine Qk rfl ?_ | refine Qi rfl ?_) | ((refine Qe ?_);first | refine Qq rfl ?_ | refine Qy rfl rfl ?_ | refine QB rfl rfl rfl ?_) | ((refine Qc ?_);first | refine Qe5 rfl rfl rfl (by omega) ?_ | refine Qm rfl ?_ | refine QM rfl rfl (by omega) ?_ | refine Zw rfl rfl (by omega) ?_ | refine Qw rfl rfl (by omega) ?_ | refine QE rfl rfl (by omega) ?_))
      exact ⟨.inr rfl,rfl,by rw [e1];rfl⟩
    · rw [Lib.decDigits,dif_neg h]
      have e1:((n:Int)%10).toNat=n%10:=by omega
      have e2:((n / 10:Nat):Int)=(n:Int) / 10:=by omega
      have k1:=ih (n / 10) (by omega) (by omega)
      rw [e2] at k1
      have hl:(Lib.decDigits (n / 10)).length≤21:=by
        have:=Lib.itoa_length_le ((n / 10:Nat):Int) (by omega) (by omega)
        rwa [Lib.itoa_nonneg] at this
      repeat' (first | refine Qg ?_ | refine Qb ?_ | refine Qp ?_ | refine Qv ?_ | refine Qf ?_ | ((refine Qh ?_);refine Qi rfl ?_) | ((refine Qe ?_);first | refine Qq rfl ?_ | refine Qy rfl rfl ?_ | refine QB rfl rfl rfl ?_) | ((refine Qc ?_);first | refine Qe5 rfl rfl rfl (by omega) ?_ | (refine Qn rfl k1 ?_;rintro v h1 ⟨rfl,rfl⟩) | refine Ui rfl rfl (by simp only [List.length_singleton];omega) ?_ | refine Qm rfl ?_ | refine QM rfl rfl (by omega) ?_ | refine Jn rfl rfl (by omega) ?_ | refine Zw rfl rfl (by omega) ?_ | refine QE rfl rfl (by omega) ?_))
      exact ⟨.inr rfl,rfl,by rw [e1];rfl⟩
theorem Qfx (h0:Qa) (x:Int) (hx:0≤x∧x≤1125899906842624):∃ v h',Cal FT HKt 45 [.sc (.int .i64 x)] h0 v h'∧h'=h0∧v=.sc (tb (Lib.itoa x)):=by
  obtain ⟨n,rfl⟩:∃ n:Nat,x=n:=⟨x.toNat,by omega⟩
  rw [Lib.itoa_nonneg]
  exact Qlf h0 n n (Nat.le_refl _) (by omega)
theorem Qfy (h0:Qa) (x:Int) (hx:x.natAbs≤1125899906842624):∃ v h',Cal FT HKt 45 [.sc (.int .i64 x)] h0 v h'∧h'=h0∧v=.sc (tb (Lib.itoa x)):=by
  by_cases h:0≤x
  · exact Qfx h0 x (by omega)
  · have k1:=Qfx h0 (-x) (by omega)
    have hl:=Jc (x := -x) (by omega)
    have e:Lib.itoa x=[45]++Lib.itoa (-x):=by
      obtain ⟨n,rfl⟩:∃ n:Nat,x = -(n:Int):=⟨x.natAbs,by omega⟩
      rw [Lib.itoa_neg n (by omega),Int.neg_neg,Lib.itoa_nonneg];rfl
    refine Cal.of (F:=a45) rfl rfl rfl ?_
    repeat' (first | refine Qg ?_ | refine Qb ?_ | refine QL ?_ | refine Qv ?_ | refine Qf ?_ | ((refine Qh ?_);refine Qk rfl ?_) | ((refine Qe ?_);first | refine Qq rfl ?_ | refine Qy rfl rfl ?_) | ((refine Qc ?_);first | (refine Qn rfl k1 ?_;rintro v h1 ⟨rfl,rfl⟩) | refine Ui (show _=some (tb [45]) from rfl) rfl (by simp only [List.length_singleton];omega) ?_ | refine Qm rfl ?_ | refine Y1 rfl (by omega) ?_ | refine Qw rfl rfl (by omega) ?_))
    exact ⟨.inr rfl,rfl,by rw [e];rfl⟩
end Go.Proofs.YtofknpknogfijaaGreatDoor




namespace Go.Proofs.YtofknpknogfijaaGreatDoor
open Go.Ab
set_option linter.unusedVariables false
set_option linter.unusedSimpArgs false
set_option maxRecDepth 20000
set_option maxHeartbeats 4000000
attribute [local irreducible] Qj wA Xm Xk QI Qo QW QV
set_option linter.unusedSectionVars false
variable [HB]
def I15 (hb:Qa) (B:Nat) (nm:List UInt8) (s:SV) (ts:List Tm) (E:Env) (h:Qa):Prop:=∃ i:Nat,i≤ts.length∧BL hb h B (qF nm ts i) ∧
  E.keep [1,5,18,19,20]=[(1,some (.sc (tb nm))),(5,some (.sc (.ptr B 0))),(18,some (.sc s)),(19,some (.sc (.int .i64 (ts.length:Nat)))),(20,some (.sc (.int .i64 (i:Nat))))]
def R15 (hb:Qa) (B:Nat) (nm:List UInt8) (ts:List Tm) (ex:Ex) (E:Env) (h:Qa):Prop:=BL hb h B (qF nm ts ts.length) ∧
  ex=.ex 1∧∃ a b c d e,E=[(1,a),(5,some (.sc (.ptr B 0))),(18,b),(19,c),(20,d),(21,e)]
theorem Qhp (hb:Qa) (B:Nat) (s:SV) (nm:List UInt8) (hn:nm.length≤40) (ts:List Tm) (hs:IsD hb s (tms ts)) (hl:ts.length≤1000) (hc:∀ t∈ts,t.2.natAbs≤cM) (he:∀ t∈ts,t.1.natAbs≤eM) (E:Env) (h:Qa) (hI:I15 hb B nm s ts E h) :
    wA FT HKt Qjr (E.keep [1,5,18,19,20]) h (QI (I15 hb B nm s ts) (cK [1,5,18,19,20] ts.length 20) (cK [1,5,18,19,20] ts.length 20 E h) (R15 hb B nm ts)):=by
  obtain ⟨i,hi,b0,hE⟩:=hI
  have hm:cK [1,5,18,19,20] ts.length 20 E h=ts.length-i:=by unfold cK;rw [hE];rfl
  rw [hm,hE]
  by_cases hlt:i < ts.length
  · obtain ⟨t,ht⟩:∃ t,ts[i]?=some t:=⟨_,List.getElem?_eq_getElem hlt⟩
    obtain ⟨id,off,cap,e1,r0⟩:=hs.at (i:=i) (p:=tmP t) (by simp [ht])
    rw [Xg] at e1
    subst e1
    have r1:=QA b0.ext r0
    have hc1:t.2.natAbs≤1125899906842624:=hc t (List.mem_of_getElem? ht)
    have he1:t.1.natAbs≤1048576:=he t (List.mem_of_getElem? ht)
    have l1:=qE hn hc he i hi
    have l2:=Jc hc1
    have l3:=Jc (x:=t.1) (by omega)
    have l4:=Jc (x := -t.2) (by omega)
    have hst:=yt (nm:=nm) ht
    have fin:∀ h2 L,BL hb h2 B L→L=qF nm ts (i+1)→I15 hb B nm (.slc id off ts.length cap) ts [(1,some (.sc (tb nm))),(5,some (.sc (.ptr B 0))),(18,some (.sc (.slc id off ts.length cap))),(19,some (.sc (.int .i64 (ts.length:Nat)))),(20,some (.sc (.int .i64 ((i:Nat)+1))))] h2:=fun h2 L b2 eL=>⟨i+1,by omega,by rw [← eL];exact b2,rfl⟩
    repeat' (first | refine Qg ?_ | refine Qb ?_ | refine Qt ?_ | refine QG ?_ | refine Qp ?_ | refine Qf ?_ | ((refine Qh ?_);first | refine Qk rfl ?_ | refine Qi rfl ?_) | ((refine Qe ?_);first | refine QO rfl rfl rfl rfl rfl ?_ | refine QD rfl rfl rfl rfl rfl rfl ?_ | refine Q4 rfl rfl rfl rfl rfl rfl rfl ?_ | refine Q8 rfl rfl rfl rfl rfl rfl rfl rfl ?_ | refine Xj rfl rfl rfl rfl rfl rfl rfl rfl rfl ?_) | ((refine Qc ?_);first | refine Qx (esz:=2) rfl rfl (by omega) ?_ | refine Yo rfl r1 ?_ | (refine Xz ?_;intro h1 e1 c1) | (refine Xw rfl rfl c1 ?_;intro h2 w2;have b1:=BLq.of b0 (w2.ext e1 (Nat.le_refl _)) w2.cel) | refine QQ rfl ?_ | refine Xc rfl b1.at ?_ | refine Q6 rfl b1.at ?_ | (refine Qn rfl (VW _ _ _ _ 45 _ _ b1 (by omega)) ?_;rintro v h2 ⟨rfl,b1⟩) | (refine Qn rfl (VW _ _ _ _ 43 _ _ b1 (by omega)) ?_;rintro v h2 ⟨rfl,b1⟩) | (refine Qn rfl (VW _ _ _ _ 94 _ _ b1 (by simp only [List.length_append,List.length_cons,List.length_nil];omega)) ?_;rintro v h2 ⟨rfl,b1⟩) | (refine Qn rfl (yE t.1 (by omega)) ?_;rintro v _ ⟨rfl,rfl⟩) | (refine Qn rfl (yE t.2 (by omega)) ?_;rintro v _ ⟨rfl,rfl⟩) | (refine Qn rfl (yE (-t.2) (by omega)) ?_;rintro v _ ⟨rfl,rfl⟩) | (refine Qn rfl (zB _ _ _ _ nm _ _ b1 (by simp only [List.length_append,List.length_cons,List.length_nil];omega) (by omega)) ?_;rintro v h2 b1) | (refine Qn rfl (zB _ _ _ _ nm _ _ b1 (by omega) (by omega)) ?_;rintro v h2 b1) | (refine Qn rfl (zB _ _ _ _ (Lib.itoa _) _ _ b1 (by simp only [List.length_append,List.length_cons,List.length_nil];omega) (by omega)) ?_;rintro v h2 b1) | (refine Qn rfl (zB _ _ _ _ (Lib.itoa _) _ _ b1 (by omega) (by omega)) ?_;rintro v h2 b1) | refine Xo rfl ?_ | refine QX rfl ?_ | refine Qm rfl ?_ | refine QY rfl rfl ?_ | refine QU rfl rfl ?_ | refine QM rfl rfl (by omega) ?_ | refine Y1 rfl (by omega) ?_ | refine Qw rfl rfl (by omega) ?_ | refine JA rfl rfl (fun hc=>?_) (fun hc=>?_) | refine JC rfl rfl (fun hc=>?_) (fun hc=>?_) | refine JD rfl rfl (fun hc=>?_) (fun hc=>?_) | refine Yc rfl rfl (by omega) ?_ | refine X3 rfl rfl (by omega) ?_ | refine Jz rfl rfl (fun hc=>?_) (fun hc=>?_)))
    all_goals refine Ym (fin _ _ b1.bl ?_) (by simp [cK,Env.keep,Env.get];omega)
    all_goals (rw [hst];unfold tTx Us;repeat first | rw [if_pos (by omega)] | rw [if_neg (by omega)])
    all_goals simp only [List.append_assoc,List.append_nil,List.nil_append]
  · have:i=ts.length:=by omega
    subst this
    repeat' (first | refine Qg ?_ | refine Qb ?_ | refine QK ?_ | refine QH ?_ | refine Qf ?_ | ((refine Qh ?_);refine Qi rfl ?_) | ((refine Qe ?_);refine QD rfl rfl rfl rfl rfl rfl ?_) | ((refine Qc ?_);refine QE rfl rfl (by omega) ?_))
    exact Yx ⟨b0,rfl,_,_,_,_,_,rfl⟩
theorem Qlp (h0:Qa) (s:SV) (nm:List UInt8) (hn:nm.length≤40) (p:Pol) (hs:IsD h0 s (tms p.ts)) (hl:p.ts.length≤1000) (hc:∀ t∈p.ts,t.2.natAbs≤cM) (he:∀ t∈p.ts,t.1.natAbs≤eM) :
    ∃ r h',Cal FT HKt 15 [.agg [.bool p.big,s],.sc (tb nm)] h0 r h'∧Ext h0 h'∧r=.sc (tb (JX nm p)):=by
  refine Cal.of (F:=a15) rfl rfl rfl ?_
  have ls:=hs.len
  rw [Xg] at ls
  cases hb:p.big with
  | true =>
    have e:JX nm p=[98,105,103]:=by unfold JX;rw [if_pos hb]
    repeat' (first | refine Qg ?_ | refine Qb ?_ | refine QL ?_ | refine Qt ?_ | refine Q9 ?_ | refine Qv ?_ | refine Qf ?_ | ((refine Qh ?_);refine Qk rfl ?_) | ((refine Qe ?_);first | refine Qq rfl ?_ | refine Qy rfl rfl ?_ | refine QB rfl rfl rfl ?_) | ((refine Qc ?_);first | (refine Q3 rfl ?_;intro h1 e1 c1) | refine QQ rfl ?_ | refine Q6 rfl c1 ?_ | refine Qm rfl ?_))
    exact ⟨.inr rfl,e1,by rw [e];rfl⟩
  | false =>
    by_cases hz:p.ts=[]
    · have e:JX nm p=[48]:=by unfold JX;rw [if_neg (by rw [hb];decide),if_pos hz]
      rw [hz,List.length_nil] at ls
      repeat' (first | refine Qg ?_ | refine Qb ?_ | refine QL ?_ | refine Qt ?_ | refine Q9 ?_ | refine Qv ?_ | refine Qf ?_ | ((refine Qh ?_);first | refine Qk rfl ?_ | refine Qi rfl ?_) | ((refine Qe ?_);first | refine Qq rfl ?_ | refine Qy rfl rfl ?_ | refine QB rfl rfl rfl ?_) | ((refine Qc ?_);first | (refine Q3 rfl ?_;intro h1 e1 c1) | refine QQ rfl ?_ | refine Xc rfl c1 ?_ | refine Q6 rfl c1 ?_ | refine Qu rfl ls ?_ | refine Qm rfl ?_ | refine Xt rfl rfl (by omega) ?_))
      exact ⟨.inr rfl,e1,by rw [e];rfl⟩
    · have e:JX nm p=qF nm p.ts p.ts.length:=by unfold JX;rw [if_neg (by rw [hb];decide),if_neg hz]
      have hp:0 < p.ts.length:=List.length_pos_iff.2 hz
      repeat' (first | refine Qg ?_ | refine Qb ?_ | refine Qt ?_ | refine QG ?_ | refine Qp ?_ | refine Qf ?_ | ((refine Qh ?_);refine Qi rfl ?_) | ((refine Qe ?_);first | refine Qy rfl rfl ?_ | refine QB rfl rfl rfl ?_ | refine QO rfl rfl rfl rfl rfl ?_) | ((refine Qc ?_);first | (refine Q3 rfl ?_;intro h1 e1 c1) | refine QQ rfl ?_ | refine Xc rfl c1 ?_ | refine Q6 rfl c1 ?_ | refine Qu rfl ls ?_ | refine Xc rfl (c1.ext ((Ext.refl _).app _)) ?_ | refine Qm rfl ?_ | refine Xh rfl rfl (by omega) ?_ | refine X6 rfl rfl ?_))
      have hln:=qE hn hc he p.ts.length (Nat.le_refl _)
      refine Js (I15 h1 h1.length nm s p.ts) (cK [1,5,18,19,20] p.ts.length 20) (R15 h1 h1.length nm p.ts) ⟨0,Nat.zero_le _,Bld.new 77 bz (Ext.refl h1),rfl⟩ (Qhp h1 h1.length s nm hn p.ts (hs.ext e1) hl hc he) ?_
      rintro ex E' h2 ⟨b2,rfl,_,_,_,_,_,rfl⟩
      repeat' (first | refine Qg ?_ | refine Qb ?_ | refine QC ?_ | refine Qv ?_ | refine Qf ?_ | ((refine Qe ?_);refine Qq rfl ?_) | ((refine Qc ?_);first | (refine Qn rfl (Qlg _ _ _ _ b2 (by omega)) ?_;rintro v h3 ⟨rfl,e3⟩) | refine Qm rfl ?_))
      exact ⟨.inr rfl,e1.trans e3,by rw [e];rfl⟩
end Go.Proofs.YtofknpknogfijaaGreatDoor


