/- The fields: the first two primes,and their roots. -/
import Derived.Test.YtofknpknogfijaaGreatDoorTR1
import Derived.Test.YtofknpknogfijaaGreatDoorEX9
import Derived.Test.YtofknpknogfijaaGreatDoorPM
import Derived.Test.YtofknpknogfijaaGreatDoorAb50
namespace Go.Proofs.YtofknpknogfijaaGreatDoor
open Go.Ab
set_option linter.unusedVariables false
set_option linter.unusedSimpArgs false
set_option maxRecDepth 20000
set_option maxHeartbeats 4000000
attribute [local irreducible] Qi wA Xk Xj Qz Qo QS QV
set_option linter.unusedSectionVars false
variable [HB]
def Jq (i:Nat):Nat:=2305843009213562881-131072*i
def J2 (n b:Nat):Nat:=YK n 64 1 b ((n-1) / 131072)
def J3 (n b:Nat):Bool:=YK n 64 1 (J2 n b) 65536 == n-1
abbrev fP (l:List (Nat × Nat)):List P2:=l.map fun x=>(SV.int .u64 (x.1:Int),SV.int .u64 (x.2:Int))
def YE (i:Nat):List (Nat × Nat):=(if 15 < i then [(p1,r1)] else [])++(if 27 < i then [(p2,r2)] else [])
theorem prs28:((List.range 28).all fun i=>prM (Jq i) == (i == 15 || i == 27))=true:=by decide +kernel
theorem Qgs {i:Nat} (h:i < 28):prM (Jq i)=(i == 15 || i == 27):=by
  have:=List.all_eq_true.1 prs28 i (List.mem_range.2 h)
  exact eq_of_beq this
theorem root1:J3 p1 13=true∧((List.range 13).all fun b=>decide (b < 2) || J3 p1 b == false)=true∧J2 p1 13=r1:=by decide +kernel
theorem root2:J3 p2 5=true∧((List.range 5).all fun b=>decide (b < 2) || J3 p2 b == false)=true∧J2 p2 5=r2:=by decide +kernel
structure RootAt (n B r:Nat):Prop where
  ok:J3 n B=true
  no:∀ b,2≤b→b < B→J3 n b=false
  eq:J2 n B=r
  two:2≤B
  le:B≤100
theorem Qhs {n B:Nat} (h:((List.range B).all fun b=>decide (b < 2) || J3 n b == false)=true):∀ b,2≤b→b < B→J3 n b=false:=fun b h1 h2=>by
  have:=List.all_eq_true.1 h b (List.mem_range.2 h2)
  rw [Bool.or_eq_true,decide_eq_true_iff] at this
  rcases this with h | h
  · omega
  · exact eq_of_beq h
theorem Qgo:RootAt p1 13 r1:=⟨root1.1,Qhs root1.2.1,root1.2.2,by decide,by decide⟩
theorem Qgn:RootAt p2 5 r2:=⟨root2.1,Qhs root2.2.1,root2.2.2,by decide,by decide⟩
structure F95 (q5 n r:Nat) (s:SV) (ps:List P2) (h0 h:Qa):Prop where
  x:Ext h0 h
  c5:Cel h q5 (.int .u64 (n:Nat)) (.int .u64 (r:Nat))
  o:OwnD h0 h s ps
  l:h0.length≤q5
theorem F95.ext {q5 n r:Nat} {s:SV} {ps:List P2} {h0 h h':Qa} (f:F95 q5 n r s ps h0 h) (e:Ext h h'):F95 q5 n r s ps h0 h':=⟨f.x.trans e,f.c5.ext e,f.o.ext e,f.l⟩
def I95b (q5 n B c:Nat) (s:SV) (ps:List P2) (h0:Qa) (m:Nat) (E:Env) (h:Qa):Prop:=∃ b r,2≤b∧b≤B∧m=B-b∧F95 q5 n r s ps h0 h ∧
  E.keep [0,3,4,5,6]=[(0,some (.sc (.int .i64 (c:Nat)))),(3,some (.sc s)),(4,some (u n)),(5,some (.sc (.ptr q5 0))),(6,some (u b))]
def R95b (q5 n r c:Nat) (s:SV) (ps:List P2) (h0:Qa) (ex:Ex) (E:Env) (h:Qa):Prop:=ex=.ex 2∧F95 q5 n r s ps h0 h ∧
  ∃ a b,E=[(0,some (.sc (.int .i64 (c:Nat)))),(3,some (.sc s)),(4,some (u n)),(5,some (.sc (.ptr q5 0))),(6,a),(35,b)]
theorem QdD (q5 n B R c:Nat) (s:SV) (ps:List P2) (h0:Qa) (hn:2 < n∧n < 9223372036854775808) (hB:RootAt n B R) (m:Nat) (E:Env) (h:Qa) (hI:I95b q5 n B c s ps h0 m E h) :
    wA FT HKt QhF (E.keep [0,3,4,5,6]) h (Qo (I95b q5 n B c s ps h0) m (R95b q5 n R c s ps h0)):=by
  obtain ⟨b,r,h2,hb,rfl,f,hE⟩:=hI
  rw [hE]
  have le:=hB.le
  have c5:=f.c5
  have k1:=fun H (r':Nat)=>yh H n r' b ((n-1) / 131072) ⟨by omega,by omega⟩ (by omega) (by omega)
  have hlt:YK n 64 1 b ((n-1) / 131072) < 18446744073709551616:=Nat.lt_of_lt_of_le (Zx 64 1 b _ (by omega)) (by omega)
  have k2:=fun H=>yh H n (YK n 64 1 b ((n-1) / 131072)) (YK n 64 1 b ((n-1) / 131072)) 65536 ⟨by omega,by omega⟩ hlt (by omega)
  have eR:YK n 64 1 b ((n-1) / 131072)=J2 n b:=rfl
  rw [eR] at k1 k2 hlt
  have hsh:((n:Int)-1) / ((2 ^ 17:Nat):Int)=(((n-1) / 131072:Nat):Int):=by omega
  have e1:((n:Int)-1)=((n-1:Nat):Int):=by omega
  have hlt2:YK n 64 1 (J2 n b) 65536 < n:=Zx 64 1 _ _ (by omega)
  by_cases hok:J3 n b=true
  · have hv:YK n 64 1 (J2 n b) 65536=n-1:=eq_of_beq hok
    have:b=B:=by
      apply Classical.byContradiction
      intro hne
      have:=hB.no b h2 (by omega)
      rw [this] at hok;cases hok
    subst this
    have eq:=hB.eq
    rw [hv] at k2
    repeat' (first | refine Qh ?_ | refine Qb ?_ | refine QP ?_ | refine Qt ?_ | refine QL ?_ | refine Qf ?_ | (refine YC ?_ ?_;rfl) | ((refine Qg ?_);refine Qk rfl ?_) | ((refine Qe ?_);first | refine QU rfl rfl rfl rfl rfl ?_ | refine QM rfl rfl rfl rfl rfl rfl ?_) | ((refine Qc ?_);first | refine QN rfl c5 ?_ | refine Xr rfl ?_ | (refine XG rfl rfl (by omega) ?_) | (refine XL (q:=17) rfl rfl rfl (by decide) ?_;rw [hsh]) | (refine Qm rfl (k1 _ _) ?_;rintro v1 h1 ⟨x1,rfl⟩;have f1:=f.ext x1;have c6:=f1.c5) | (refine Vb rfl rfl c6 ?_;intro h2 w2;have c7:=w2.cel) | refine QN rfl c7 ?_ | refine Q0 rfl c7 ?_ | (refine Qm rfl (k2 _) ?_;rintro v3 h3 ⟨x3,rfl⟩) | refine Qp rfl ?_ | refine Xw rfl rfl (by omega) ?_))
    exact QG ⟨rfl,⟨(w2.ext f1.x f1.l).trans x3,by rw [← eq];exact c7.ext x3,(f1.o.wrC w2).ext x3,f1.l⟩,_,_,rfl⟩
  · have hv:YK n 64 1 (J2 n b) 65536≠n-1:=fun e=>hok (by unfold J3;rw [e];simp)
    have hbB:b < B:=by
      rcases Nat.lt_or_ge b B with h | h
      · exact h
      · have:b=B:=by omega
        subst this;exact absurd hB.ok hok
    generalize YK n 64 1 (J2 n b) 65536=V at *
    repeat' (first | refine Qh ?_ | refine Qb ?_ | refine Qt ?_ | refine QC ?_ | refine Qn ?_ | refine Qf ?_ | ((refine Qg ?_);refine Qj rfl ?_) | ((refine Qe ?_);first | refine QU rfl rfl rfl rfl rfl ?_ | refine QM rfl rfl rfl rfl rfl rfl ?_) | ((refine Qc ?_);first | refine QN rfl c5 ?_ | refine Xr rfl ?_ | (refine XG rfl rfl (by omega) ?_) | (refine XL (q:=17) rfl rfl rfl (by decide) ?_;rw [hsh]) | (refine Qm rfl (k1 _ _) ?_;rintro v1 h1 ⟨x1,rfl⟩;have f1:=f.ext x1;have c6:=f1.c5) | (refine Vb rfl rfl c6 ?_;intro h2 w2;have c7:=w2.cel) | refine QN rfl c7 ?_ | refine Q0 rfl c7 ?_ | (refine Qm rfl (k2 _) ?_;rintro v3 h3 ⟨x3,rfl⟩) | refine YN rfl rfl (by omega) ?_ | refine Qp rfl ?_ | refine Xa rfl rfl (by omega) ?_))
    exact Qu (j:=B-(b+1)) (by omega) ⟨b+1,J2 n b,by omega,by omega,rfl,⟨(w2.ext f1.x f1.l).trans x3,c7.ext x3,(f1.o.wrC w2).ext x3,f1.l⟩,rfl⟩
def I95 (c:Nat) (h0:Qa) (m:Nat) (E:Env) (h:Qa):Prop:=∃ (i:Nat) (s:SV),i≤28∧m=28-i∧(YE i).length≤c∧Ext h0 h∧OwnD h0 h s (fP (YE i)) ∧
  E.keep [0,3,4]=[(0,some (.sc (.int .i64 (c:Nat)))),(3,some (.sc s)),(4,some (u (Jq i)))]
def R95 (c:Nat) (h0:Qa) (ex:Ex) (E:Env) (h:Qa):Prop:=ex=.ex 0∧Ext h0 h∧∃ (i:Nat) (s:SV),i≤28∧(YE i).length=c∧OwnD h0 h s (fP (YE i)) ∧
  ∃ a b d,E=[(0,a),(3,some (.sc s)),(4,b),(12,d)]
theorem OwnD.len' {h0 h:Qa} {s:SV} {l:List (Nat × Nat)} (o:OwnD h0 h s (fP l)):Yq false s=some (l.length:Int):=by
  have:=o.is.len
  rw [List.length_map] at this
  exact this
theorem Qc6 (i:Nat):(YE i).length≤2:=by unfold YE;split <;> split <;> simp
theorem Qa3 {i:Nat} (h1:i≠15) (h2:i≠27):YE (i+1)=YE i:=by
  unfold YE
  by_cases h:15 < i
  · rw [if_pos h,if_pos (by omega)]
    by_cases h3:27 < i
    · rw [if_pos h3,if_pos (by omega)]
    · rw [if_neg h3,if_neg (by omega)]
  · rw [if_neg h,if_neg (by omega),if_neg (by omega),if_neg (by omega)]
theorem Qc5 {i:Nat} (h:i=15∨i=27):∃ B r,RootAt (Jq i) B r∧YE (i+1)=YE i++[(Jq i,r)]:=by
  rcases h with rfl | rfl
  · exact ⟨13,r1,Qgo,by decide⟩
  · exact ⟨5,r2,Qgn,by decide⟩
theorem Qga (c:Nat) (hc:1≤c∧c≤2) (h0:Qa) (m:Nat) (E:Env) (h:Qa) (hI:I95 c h0 m E h) :
    wA FT HKt QhG (E.keep [0,3,4]) h (Qo (I95 c h0) m (R95 c h0)):=by
  obtain ⟨i,s,hi,rfl,hl,x,o,hE⟩:=hI
  rw [hE]
  have ls:=OwnD.len' o
  by_cases hlt:(YE i).length < c
  · have hi28:i < 28:=by
      rcases Nat.lt_or_ge i 28 with h | h
      · exact h
      · have:i=28:=by omega
        subst this
        have:(YE 28).length=2:=by decide
        omega
    have hcl:2305843000000000000 < Jq i∧Jq i < 9223372036854775808:=by unfold Jq;omega
    have hc1:Jq (i+1)+131072=Jq i:=by unfold Jq;omega
    have k118:=fun H=>Qcb H (Jq i) ⟨by omega,by omega⟩
    have hpr:=Qgs hi28
    by_cases hp:i=15∨i=27
    · have hp1:prM (Jq i)=true:=by rw [hpr];rcases hp with rfl | rfl <;> rfl
      rw [hp1] at k118
      obtain ⟨B,R,ra,hf⟩:=Qc5 hp
      have rl:=fun q5 h1 (o:OwnD h0 h1 s (fP (YE i)))=>QdD q5 (Jq i) B R c s (fP (YE i)) h0 ⟨by omega,hcl.2⟩ ra
      have two:=ra.two
      clear ra hpr hp1
      generalize hn:Jq i=n at *
      generalize hn1:Jq (i+1)=n1 at *
      have en:((n:Int)-131072)=(n1:Nat):=by omega
      repeat' (first | refine Qh ?_ | refine Qb ?_ | refine Qt ?_ | refine Qn ?_ | refine Qf ?_ | ((refine Qg ?_);first | refine Qk rfl ?_ | refine Qj rfl ?_) | ((refine Qe ?_);first | refine QQ rfl rfl rfl rfl ?_ | refine QU rfl rfl rfl rfl rfl ?_) | ((refine Qc ?_);first | refine QA rfl ls ?_ | (refine Qm rfl (k118 _) ?_;rintro v1 h1 ⟨x1,rfl⟩) | refine Y0 rfl rfl ?_ | (refine YU rfl ?_;intro h2 x2 c5) | refine Qp rfl ?_ | refine XQ rfl ?_ | refine Qx rfl rfl (by omega) ?_))
      refine Q2 (I95b h1.length n B c s (fP (YE i)) h0) (B-2) (R95b h1.length n R c s (fP (YE i)) h0) ⟨2,0,Nat.le_refl _,two,rfl,⟨(x.trans x1).trans x2,c5,(o.ext x1).ext x2,by have:=x.len;have:=x1.len;omega⟩,rfl⟩ (rl h1.length h2 ((o.ext x1).ext x2)) ?_
      rintro ex E' h3 ⟨rfl,f3,_,_,rfl⟩
      have c3:=f3.c5
      repeat' (first | refine Qb ?_ | refine QC ?_ | refine QE ?_ | refine Qf ?_ | ((refine Qe ?_);refine Qy rfl rfl rfl ?_) | ((refine Qc ?_);first | refine QN rfl c3 ?_ | (refine zU rfl ?_;intro h4 x4 s4) | (refine qW (f3.x.trans x4) (f3.o.ext x4) rfl rfl s4 (by have:=Qc6 i;simp only [List.length_map,YV];omega) ?_;intro s5 h5 o5 x5 fr5 l5) | (refine XG rfl rfl (by omega) ?_;rw [en]) | refine Qp rfl ?_))
      refine Qu (j:=28-(i+1)) (by omega) ⟨i+1,s5,by omega,rfl,by rw [hf];simp;omega,x5,?_,by rw [hn1];rfl⟩
      rw [hf]
      simpa using o5
    · have hp1:prM (Jq i)=false:=by
        rw [hpr,Bool.or_eq_false_iff,beq_eq_false_iff_ne,beq_eq_false_iff_ne]
        exact ⟨fun e=>hp (.inl e),fun e=>hp (.inr e)⟩
      rw [hp1] at k118
      have hf:=Qa3 (i:=i) (fun e=>hp (.inl e)) (fun e=>hp (.inr e))
      generalize hn:Jq i=n at *
      generalize hn1:Jq (i+1)=n1 at *
      have en:((n:Int)-131072)=(n1:Nat):=by omega
      repeat' (first | refine Qh ?_ | refine Qb ?_ | refine QP ?_ | refine Qt ?_ | refine QE ?_ | refine Qn ?_ | refine QL ?_ | refine Qf ?_ | ((refine Qg ?_);refine Qk rfl ?_) | ((refine Qe ?_);first | refine Qy rfl rfl rfl ?_ | refine QQ rfl rfl rfl rfl ?_) | ((refine Qc ?_);first | refine QA rfl ls ?_ | (refine Qm rfl (k118 _) ?_;rintro v1 h1 ⟨x1,rfl⟩) | (refine XG rfl rfl (by omega) ?_;rw [en]) | refine Qp rfl ?_ | refine XW rfl ?_ | refine Qx rfl rfl (by omega) ?_))
      exact Qu (j:=28-(i+1)) (by omega) ⟨i+1,s,by omega,rfl,by rw [hf];exact hl,x.trans x1,by rw [hf];exact o.ext x1,by rw [hn1];rfl⟩
  · repeat' (first | refine Qh ?_ | refine Qb ?_ | refine QP ?_ | refine QL ?_ | refine Qf ?_ | ((refine Qg ?_);refine Qj rfl ?_) | ((refine Qe ?_);refine QQ rfl rfl rfl rfl ?_) | ((refine Qc ?_);first | refine QA rfl ls ?_ | refine Qp rfl ?_ | refine QH rfl rfl (by omega) ?_))
    exact QG ⟨rfl,x,i,s,hi,by omega,o,_,_,_,rfl⟩
def Yr (c:Nat):List (Nat × Nat):=if c=1 then [(p1,r1)] else [(p1,r1),(p2,r2)]
theorem Qa4 {i c:Nat} (hc:1≤c∧c≤2) (h:(YE i).length=c):YE i=Yr c:=by
  unfold Yr
  unfold YE at h ⊢
  by_cases h1:15 < i
  · by_cases h2:27 < i
    · rw [if_pos h1,if_pos h2] at h ⊢
      rw [if_neg (by simp at h;omega)];rfl
    · rw [if_pos h1,if_neg h2] at h ⊢
      rw [if_pos (by simp at h;omega)];rfl
  · rw [if_neg h1,if_neg (by omega)] at h
    simp at h;omega
theorem Qjr (h0:Qa) (c:Nat) (hc:1≤c∧c≤2):∃ r h',Cal FT HKt 95 [.sc (.int .i64 (c:Nat))] h0 r h'∧Ext h0 h'∧∃ s,r=.sc s∧OwnD h0 h' s (fP (Yr c)):=by
  refine Cal.of (F:=a95) rfl rfl rfl ?_
  repeat' (first | refine Qh ?_ | refine Qb ?_ | refine Qt ?_ | refine Qf ?_ | ((refine Qe ?_);first | refine Qr rfl ?_ | refine Qv rfl rfl ?_ | refine Qy rfl rfl rfl ?_) | ((refine Qc ?_);first | (refine Qhy (Ext.refl h0) rfl rfl ⟨by decide,by omega,by unfold YV;omega⟩ ?_;intro s1 h1 o1 x1 x1' l1) | refine Qp rfl ?_))
  have e0:List.replicate ((0:Int)).toNat (SV.int .u64 0,SV.int .u64 0)=fP (YE 0):=by decide
  rw [e0] at o1
  refine Q2 (I95 c h0) 28 (R95 c h0) ⟨0,s1,by omega,rfl,by rw [show YE 0=[] by decide];exact Nat.zero_le _,x1,o1,rfl⟩ (Qga c hc h0) ?_
  rintro ex E' h2 ⟨rfl,x2,i,s2,hi,hl,o2,_,_,_,rfl⟩
  rw [Qa4 hc hl] at o2
  repeat' (first | refine Qh ?_ | refine Qb ?_ | refine QE ?_ | refine Qs ?_ | refine Qf ?_ | ((refine Qe ?_);refine Qr rfl ?_) | ((refine Qc ?_);refine Qp rfl ?_))
  exact ⟨.inr rfl,x2,s2,rfl,o2⟩
end Go.Proofs.YtofknpknogfijaaGreatDoor


namespace Go.Proofs.YtofknpknogfijaaGreatDoor
open Go.Ab
set_option linter.unusedVariables false
set_option linter.unusedSimpArgs false
set_option maxRecDepth 20000
set_option maxHeartbeats 4000000
attribute [local irreducible] Qi wA Xk Xj Qz Qo QS QV
set_option linter.unusedSectionVars false
variable [HB]
def Qdg (p N t:Nat) (pws:List Nat) (x:Nat) (m:Tm):Nat:=adM p x (ofM p m.2*pws.getD (m.1.toNat*t%N) 0%p)
def acc (p N t:Nat) (pws:List Nat) (l:List Tm):Nat:=l.foldl (Qdg p N t pws) 0
theorem Qfv {p N t i:Nat} {pws:List Nat} {l:List Tm} {m:Tm} (h:l[i]?=some m):acc p N t pws (l.take (i+1))=Qdg p N t pws (acc p N t pws (l.take i)) m:=by
  unfold acc
  rw [List.take_add_one,h,List.foldl_append];rfl
def Ub (p:Nat) (m:Tm):Prop:=0≤m.1∧m.1≤100000∧m.2.natAbs < p
theorem Qbh {p N t:Nat} {pws:List Nat} (hp:0 < p):∀ {l:List Tm},acc p N t pws l < p:=by
  intro l
  unfold acc
  have:∀ (l:List Tm) (x:Nat),x < p→l.foldl (Qdg p N t pws) x < p:=by
    intro l
    induction l with
    | nil=>intro x h;exact h
    | cons m l ih=>intro x h;exact ih _ (Qbg h (Nat.mod_lt _ hp))
  exact this l 0 hp
structure S108 (q rid:Nat) (top:List SV) (row:List Nat) (hb H h:Qa):Prop where
  x:Ext hb h
  c:Chg (·=rid) H h
  t:h[q]?=some (.cells top true 1)
  b:Bu h rid row
  lo:hb.length≤rid∧q≠rid
theorem S108.ext {q rid:Nat} {top:List SV} {row:List Nat} {hb H h h':Qa} (s:S108 q rid top row hb H h) (e:Ext h h'):S108 q rid top row hb H h' :=
  ⟨s.x.trans e,s.c.ext e,by obtain ⟨t,rfl⟩:=e;rw [List.getElem?_append_left (List.getElem?_eq_some_iff.1 s.t).1,s.t],s.b.ext e,s.lo⟩
theorem S108.put {q rid:Nat} {top:List SV} {row:List Nat} {hb H h:Qa} (s:S108 q rid top row hb H h) (row':List Nat):S108 q rid top row' hb H (h.set rid (.cells (row'.map fun (x:Nat)=>SV.int .u64 (x:Int)) true 1)) :=
  ⟨Ext.setF s.x s.lo.1 _,s.c.set rfl _,by rw [List.getElem?_set_ne (Ne.symm s.lo.2),s.t],s.b.set,s.lo⟩
section
variable {FT:FuncId→Option AFun} {HK:FuncId→Option Xc} {E:Env} {h:Qa} {K:Env→Qa→Prop} {r:List AOp} {x:AO}
theorem J5 {t:Nat} {z1 z2 v w:SV} (hx:ev (Qq (some t) (some (.sc (.ptr h.length 0))) E) x=some (.agg [v,w])) (hw:∀ h1,Ext h h1→Cel h1 h.length v w→Qi FT HK r (Qq (some t) (some (.sc (.ptr h.length 0))) E) h1 K) :
    Qi FT HK (⟨some t,.new [z1,z2],none⟩::⟨none,.st 2 (.t t) x,none⟩::r) E h K :=
  Xm fun h1 e1 c1=>Xu (by simp [evS,ev,Qq,Env.get]) hx c1 fun h2 w2=>hw h2 (w2.ext e1 (Nat.le_refl _)) w2.cel
end
theorem Qdv {h:Qa} {q i:Nat} {cs:List SV} {v:SV} (ht:h[q]?=some (.cells cs true 1)) (hi:cs[i]?=some v):QX h q (0+i*1) 1=some [v]:=by
  have hl:=(List.getElem?_eq_some_iff.1 hi).1
  simp only [QX,ht,cut]
  rw [if_pos (by omega)]
  congr 1
  rw [Nat.zero_add,Nat.mul_one]
  apply List.ext_getElem?
  intro j
  cases j with
  | zero=>simp [hi]
  | succ j=>simp;omega
def QfD (p g q3 N t pid q rid n i k:Nat) (pws row:List Nat) (top:List SV) (l:List Tm) (ts:SV) (a1 a2 a8 a12 a64 a65 a71 a72 a73 a84 a85 a86:AV) (hb H:Qa) (m:Nat) (E:Env) (h:Qa):Prop:=∃ j,j≤l.length∧m=l.length-j∧S108 q rid top (row.set k (acc p N t pws (l.take j))) hb H h ∧
  E.keep [1,2,3,7,8,10,12,13,14,15,17,64,65,71,72,73,84,85,86,91,92,93]=[(1,some a1),(2,some a2),(3,some (.sc (.ptr q3 0))),(7,some (.sc (.int .i64 (N:Nat)))),(8,some a8),(10,some (.sc (.slc pid 0 N (some N)))),(12,some a12),(13,some (.sc (.int .i64 (t:Nat)))),(14,some (.sc (.slc q 0 n (some n)))),(15,some (.sc (.int .i64 (i:Nat)))),(17,some (.sc (.int .i64 (k:Nat)))),(64,some a64),(65,some a65),(71,some a71),(72,some a72),(73,some a73),(84,some a84),(85,some a85),(86,some a86),(91,some (.sc ts)),(92,some (.sc (.int .i64 (l.length:Nat)))),(93,some (.sc (.int .i64 (j:Nat))))]
def Qh5 (p g q3 N t pid q rid n i k:Nat) (pws row:List Nat) (top:List SV) (l:List Tm) (a1 a2 a8 a12 a64 a65 a71 a72 a73 a84 a85 a86:AV) (hb H:Qa) (ex:Ex) (E:Env) (h:Qa):Prop:=ex=.ex 12∧S108 q rid top (row.set k (acc p N t pws l)) hb H h ∧
  ∃ a b c d,E=[(1,some a1),(2,some a2),(3,some (.sc (.ptr q3 0))),(7,some (.sc (.int .i64 (N:Nat)))),(8,some a8),(10,some (.sc (.slc pid 0 N (some N)))),(12,some a12),(13,some (.sc (.int .i64 (t:Nat)))),(14,some (.sc (.slc q 0 n (some n)))),(15,some (.sc (.int .i64 (i:Nat)))),(17,a),(64,some a64),(65,some a65),(71,some a71),(72,some a72),(73,some a73),(84,some a84),(85,some a85),(86,some a86),(91,b),(92,c),(93,d),(94,some (.sc (.bool false)))]
theorem QcB (p g q3 N t pid q rid n i k:Nat) (pws row:List Nat) (top:List SV) (l:List Tm) (ts:SV) (a1 a2 a8 a12 a64 a65 a71 a72 a73 a84 a85 a86:AV) (hb H:Qa) (hp:0 < p∧p < 9223372036854775808) (hN:0 < N∧N≤131072) (ht:t < N) (hl:l.length≤1000000) (hi:i < n) (hk:k < n) (hrow:row.length=n)
    (c3:Cel hb q3 (.int .u64 (p:Nat)) (.int .u64 (g:Nat))) (bp:Bu hb pid pws) (lp:pws.length=N) (pp:∀ x∈pws,x < p) (dt:IsD hb ts (tms l)) (tok:∀ m∈l,Ub p m) (htop:top[i]?=some (.slc rid 0 n (some n))) (m:Nat) (E:Env) (h:Qa) (hI:QfD p g q3 N t pid q rid n i k pws row top l ts a1 a2 a8 a12 a64 a65 a71 a72 a73 a84 a85 a86 hb H m E h) :
    wA FT HKt Qe7 (E.keep [1,2,3,7,8,10,12,13,14,15,17,64,65,71,72,73,84,85,86,91,92,93]) h (Qo (QfD p g q3 N t pid q rid n i k pws row top l ts a1 a2 a8 a12 a64 a65 a71 a72 a73 a84 a85 a86 hb H) m (Qh5 p g q3 N t pid q rid n i k pws row top l a1 a2 a8 a12 a64 a65 a71 a72 a73 a84 a85 a86 hb H)):=by
  obtain ⟨j,hj,rfl,s,hE⟩:=hI
  rw [hE]
  by_cases hlt:j < l.length
  · obtain ⟨y,hy⟩:∃ y,l[j]?=some y:=⟨_,List.getElem?_eq_getElem hlt⟩
    have ok:=tok y (List.mem_of_getElem? hy)
    obtain ⟨id,off,cap,es,rA⟩:=dt.at (i:=j) (p:=tmP y) (by simp [hy])
    rw [XD] at es
    subst es
    have rA0:=QO s.x rA
    obtain ⟨e,he⟩:∃ e:Nat,y.1=e:=⟨y.1.toNat,by have:=ok.1;omega⟩
    obtain ⟨y1,y2⟩:=y
    simp only at he
    subst he
    have step:=Qfv (p:=p) (N:=N) (t:=t) (pws:=pws) hy
    have hmul:e*t≤100000*131072:=Nat.mul_le_mul (by have:=ok.2.1;simp only at this;omega) (by omega)
    have hme:((e:Int)*(t:Int))=((e*t:Nat):Int):=by rw [Int.natCast_mul]
    have hmr:(((e*t:Nat):Int)%(N:Int))=((e*t%N:Nat):Int):=by rw [Int.natCast_emod]
    have hix:e*t%N < N:=Nat.mod_lt _ hN.1
    have rp:=fun h (x:Ext hb h)=>QO x (bp.rd (i:=e*t%N) (by omega))
    have hpw:pws.getD (e*t%N) 0 < p:=by rw [List.getD_eq_getElem?_getD,List.getElem?_eq_getElem (by omega)];exact pp _ (List.getElem_mem _)
    have rt:=Qdv s.t htop
    have hac:acc p N t pws (l.take j) < p:=Qbh hp.1
    have rv:=s.b.rd (i:=k) (by rw [List.length_set];omega)
    have gd:(row.set k (acc p N t pws (l.take j))).getD k 0=acc p N t pws (l.take j):=by rw [List.getD_eq_getElem?_getD,List.getElem?_set_self (by omega)];rfl
    rw [gd] at rv
    have k99:=fun H=>Qa7 H p g y2 hp.2 ok.2.2
    have hof:ofM p y2 < p:=QaR ok.2.2
    have k98:=fun H=>Y5 H p g (ofM p y2) (pws.getD (e*t%N) 0) ⟨hp.1,by omega⟩ (by omega) (by omega)
    have hT:ofM p y2*pws.getD (e*t%N) 0%p < p:=Nat.mod_lt _ hp.1
    have k129:=fun H=>Vs H p g (acc p N t pws (l.take j)) (ofM p y2*pws.getD (e*t%N) 0%p) hp.2 hac hT
    have ea:adM p (acc p N t pws (l.take j)) (ofM p y2*pws.getD (e*t%N) 0%p)=acc p N t pws (l.take (j+1)):=step.symm
    rw [ea] at k129
    have nx:=fun h' (x:Ext h h')=>(s.ext x).put ((row.set k (acc p N t pws (l.take j))).set k (acc p N t pws (l.take (j+1))))
    have wr:=fun h' (x:Ext h h')=>(s.ext x).b.wr (i:=k) (y:=acc p N t pws (l.take (j+1))) (by rw [List.length_set];omega)
    rw [List.set_set] at nx wr
    clear step ea
    generalize hA1:acc p N t pws (l.take (j+1))=A1 at *
    generalize acc p N t pws (l.take j)=A0 at *
    generalize hP:pws.getD (e*t%N) 0=P at *
    generalize ofM p y2=Y at *
    generalize Y*P%p=T at *
    generalize e*t%N=ix at *
    have x0:=Ext.refl h
    repeat' (first | refine Qh ?_ | refine Qb ?_ | refine Qt ?_ | refine QC ?_ | refine Qn ?_ | refine Qf ?_ | refine Q9 ?_ | refine Xs ?_ | refine Xt ?_ | ((refine Qg ?_);refine Qk rfl ?_) | ((refine Qe ?_);first | refine Xb ?_ | refine XP ?_ | refine Xi (by assumption) ?_ | refine Yu rfl rfl rfl rfl rfl rfl rfl rfl rfl rfl rfl rfl rfl rfl rfl rfl rfl rfl rfl rfl rfl rfl ?_ | refine Yt rfl rfl rfl rfl rfl rfl rfl rfl rfl rfl rfl rfl rfl rfl rfl rfl rfl rfl rfl rfl rfl rfl rfl ?_ | refine YH rfl rfl rfl rfl rfl rfl rfl rfl rfl rfl rfl rfl rfl rfl rfl rfl rfl rfl rfl rfl rfl rfl rfl rfl ?_) | ((refine Qc ?_);first | (refine J5 rfl ?_;intro h1 x1 c20;replace x0:=x1) | refine Xr rfl ?_ | (have z:=c20;refine Q4 rfl (c20.ext (Ext.refl _)) ?_) | refine Q0 rfl c20 ?_ | refine Yi rfl rA0 ?_ | (refine YR rfl rfl (by rw [hme];omega) ?_;rw [hme]) | (refine Y8 rfl rfl (by omega) ?_;rw [hmr]) | refine QD (esz:=1) rfl rfl (by omega) ?_ | refine QD (esz:=2) rfl rfl (by omega) ?_ | refine Xx rfl (rp _ (s.x.trans x0)) ?_ | refine Xx rfl (QO x0 rt) ?_ | refine Xx rfl (QO x0 rv) ?_ | refine QN rfl (c3.ext (s.x.trans x0)) ?_ | (refine Qm rfl (k99 _) ?_;rintro v2 h2 ⟨e2,rfl⟩;replace x0:=x0.trans e2) | (refine Qm rfl (k98 _) ?_;rintro v2 h2 ⟨e2,rfl⟩;replace x0:=x0.trans e2) | (refine Qm rfl (k129 _) ?_;rintro v2 h2 ⟨e2,rfl⟩;replace x0:=x0.trans e2) | refine Jk rfl rfl (wr _ x0) ?_ | refine Qp rfl ?_ | refine QK rfl rfl (by omega) ?_ | refine Qx rfl rfl (by omega) ?_))
    exact Qu (j:=l.length-(j+1)) (by omega) ⟨j+1,by omega,rfl,by rw [hA1];exact nx _ x0,rfl⟩
  · have:j=l.length:=by omega
    subst this
    rw [List.take_length] at s
    repeat' (first | refine Qh ?_ | refine Qb ?_ | refine QP ?_ | refine QL ?_ | refine Qf ?_ | ((refine Qg ?_);refine Qj rfl ?_) | ((refine Qe ?_);refine Yt rfl rfl rfl rfl rfl rfl rfl rfl rfl rfl rfl rfl rfl rfl rfl rfl rfl rfl rfl rfl rfl rfl rfl ?_) | ((refine Qc ?_);refine QH rfl rfl (by omega) ?_))
    exact QG ⟨rfl,s,_,_,_,_,rfl⟩
end Go.Proofs.YtofknpknogfijaaGreatDoor

