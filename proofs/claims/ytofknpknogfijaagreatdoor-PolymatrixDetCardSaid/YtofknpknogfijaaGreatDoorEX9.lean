/- The reference's Add,47. -/
import Derived.Test.YtofknpknogfijaaGreatDoorEX7
namespace Go.Proofs.YtofknpknogfijaaGreatDoor
open Go.Ab
set_option linter.unusedVariables false
set_option linter.unusedSimpArgs false
set_option maxRecDepth 20000
set_option maxHeartbeats 4000000
attribute [local irreducible] Qj wA Xm Xk QI Qo QW QV
set_option linter.unusedSectionVars false
variable [HB]
def Xn (L:List Tm) (M:List Tm):List Tm:=L.foldl (fun M t=>YF t.1 t.2 M) M
theorem Jx {L M:List Tm} {t:Tm} {i:Nat} (h:L[i]?=some t):Xn (L.take (i+1)) M=YF t.1 t.2 (Xn (L.take i) M):=by
  unfold Xn
  rw [List.take_add_one,h,List.foldl_append]
  rfl
theorem Qaq (e v:Int):∀ M:List Tm,(YF e v M).length≤M.length+1
  | []=>by simp [YF]
  | u::r=>by
    have:=Qaq e v r
    unfold YF
    split
    · simp only [List.length_cons];omega
    split <;> simp only [List.length_cons] <;> omega
theorem Qcl {e v:Int} {B:Nat}:∀ {M:List Tm},(∀ u∈M,u.2.natAbs≤B)→∀ u∈YF e v M,u.2.natAbs≤B+v.natAbs
  | [],h,u,hu=>by simp [YF] at hu;subst hu;simp
  | a::r,h,u,hu=>by
    have h0:=h a (.head _)
    have h1:∀ u∈r,u.2.natAbs≤B:=fun u hu=>h u (.tail _ hu)
    unfold YF at hu
    split at hu
    · rcases List.mem_cons.1 hu with rfl | hu
      · omega
      · exact Qcl h1 u hu
    split at hu
    · rcases List.mem_cons.1 hu with rfl | hu
      · simp only;omega
      · have:=h1 u hu;omega
    · rcases List.mem_cons.1 hu with rfl | hu
      · simp only;omega
      · have:=h u hu;omega
structure Sm2 (h:Qa) (sx st:SV) (M:List Tm) (n B:Nat):Prop where
  x:IsInts h sx (M.map (·.1))
  t:IsD h st (M.map wp)
  len:M.length≤n
  bd:∀ u∈M,u.2.natAbs≤n*B
theorem Sm2.ext {h h':Qa} {sx st:SV} {M:List Tm} {n B:Nat} (m:Sm2 h sx st M n B) (e:Ext h h'):Sm2 h' sx st M n B:=⟨IsSl.ext m.x e,m.t.ext e,m.len,m.bd⟩
theorem Sm2.put {h h':Qa} {sx st s1 s2:SV} {M:List Tm} {n B:Nat} {e v:Int} (m:Sm2 h sx st M n B) (hv:v.natAbs≤B) (hx:IsInts h' s1 ((YF e v M).map (·.1))) (ht:IsD h' s2 ((YF e v M).map wp)):Sm2 h' s1 s2 (YF e v M) (n+1) B :=
  ⟨hx,ht,Nat.le_trans (Qaq e v M) (by have:=m.len;omega),fun u hu=>by have:=Qcl m.bd u hu;rw [Nat.add_mul];omega⟩
theorem VV (h0:Qa) (sx st:SV) (e v:Int) (M:List Tm) (n B:Nat) (m:Sm2 h0 sx st M n B) (hn:n≤1000000) (hB:n*B≤2 ^ 104) (hv:v.natAbs≤2 ^ 104) (hvB:v.natAbs≤B) :
    ∃ r h',Cal FT HKt 80 [.sc sx,.sc st,.sc (.int .i64 e),nf v] h0 r h'∧Ext h0 h'∧∃ s1 s2,r=.tup [.sc s1,.sc s2]∧Sm2 h' s1 s2 (YF e v M) (n+1) B:=by
  obtain ⟨r,h',a,b,s1,s2,rfl,c,d⟩:=Qk8 h0 sx st e v M m.x m.t (by have:=m.len;omega) hv fun u hu=>Nat.le_trans (m.bd u hu) hB
  exact ⟨_,h',a,b,s1,s2,rfl,m.put hvB c d⟩
structure St49 (h0 h:Qa) (q2 q3 q4:Nat) (s t:SV) (bp bq:Bool):Prop where
  e:Ext h0 h
  c2:Cel h q2 s (.bool bp)
  c3:Cel h q3 t (.bool bq)
  c4:Cel h q4 .nilS (.bool false)
theorem St49.ext {h0 h h':Qa} {q2 q3 q4:Nat} {s t:SV} {bp bq:Bool} (u:St49 h0 h q2 q3 q4 s t bp bq) (e:Ext h h'):St49 h0 h' q2 q3 q4 s t bp bq:=⟨u.e.trans e,u.c2.ext e,u.c3.ext e,u.c4.ext e⟩
def I49a (h0:Qa) (q2 q3 q4:Nat) (s t:SV) (bp bq:Bool) (P:List Tm) (k:Nat) (E:Env) (h:Qa):Prop:=∃ (i:Nat) (sx st:SV),i≤P.length∧k=P.length-i∧St49 h0 h q2 q3 q4 s t bp bq∧Sm2 h sx st (Xn (P.take i) []) i cM ∧
  E.keep [2,3,4,5,6,7]=[(2,some (.sc (.ptr q2 0))),(3,some (.sc (.ptr q3 0))),(4,some (.sc (.ptr q4 0))),(5,some (.sc sx)),(6,some (.sc st)),(7,some (.sc (.int .i64 (i:Nat))))]
def R49a (h0:Qa) (q2 q3 q4:Nat) (s t:SV) (bp bq:Bool) (P:List Tm) (ex:Ex) (E:Env) (h:Qa):Prop:=ex=.ex 0∧∃ sx st a b,St49 h0 h q2 q3 q4 s t bp bq∧Sm2 h sx st (Xn P []) P.length cM ∧
  E=[(2,some (.sc (.ptr q2 0))),(3,some (.sc (.ptr q3 0))),(4,some (.sc (.ptr q4 0))),(5,some (.sc sx)),(6,some (.sc st)),(7,a),(20,b)]
theorem Qeh (h0:Qa) (q2 q3 q4:Nat) (s t:SV) (bp bq:Bool) (P:List Tm) (hp:IsD h0 s (tms P)) (hc:∀ t∈P,t.2.natAbs≤cM) (hn:P.length≤1000) (k:Nat) (E:Env) (h:Qa) (hI:I49a h0 q2 q3 q4 s t bp bq P k E h) :
    wA FT HKt Qi8 (E.keep [2,3,4,5,6,7]) h (Qo (I49a h0 q2 q3 q4 s t bp bq P) k (R49a h0 q2 q3 q4 s t bp bq P)):=by
  obtain ⟨i,sx,st,hi,rfl,sg,sm,hE⟩:=hI
  rw [hE]
  have ls:=hp.len
  rw [Xg] at ls
  have c2:=sg.c2
  by_cases hlt:i < P.length
  · obtain ⟨u,hu⟩:∃ u,P[i]?=some u:=⟨_,List.getElem?_eq_getElem hlt⟩
    have hcu:=hc u (List.mem_of_getElem? hu)
    obtain ⟨id,off,cap,rfl,rd0⟩:=IsD.at hp (i:=i) (p:=tmP u) (by rw [List.getElem?_map,hu];rfl)
    have rd:=QA sg.e rd0
    obtain ⟨rda,rdb⟩:=rd1 rd
    have k79:=fun H=>QbK H u.2 1 hcu (by decide)
    rw [Int.mul_one] at k79
    have k78:=fun H (m:Sm2 H sx st (Xn (P.take i) []) i cM)=>VV H sx st u.1 u.2 _ i cM m (by omega) (by simp only [cM];omega) (by simp only [cM] at hcu;omega) hcu
    rw [← Jx hu] at k78
    rw [Xg] at ls c2 sg ⊢
    repeat' (first | refine Qg ?_ | refine Qb ?_ | refine Qt ?_ | refine QG ?_ | refine Qp ?_ | refine Qf ?_ | refine Xb ?_ | refine Xq ?_ | refine Xr ?_ | ((refine Qh ?_);refine Qk rfl ?_) | ((refine Qe ?_);first | refine Xd ?_ | refine XI ?_ | refine XD (by assumption) ?_ | refine QD rfl rfl rfl rfl rfl rfl ?_ | refine Q4 rfl rfl rfl rfl rfl rfl rfl ?_) | ((refine Qc ?_);first | refine QQ rfl ?_ | refine Q6 rfl c2 ?_ | refine Qu rfl ls ?_ | refine Qx (esz:=2) rfl rfl (by omega) ?_ | refine Q2 rfl rda ?_ | refine Q2 rfl rdb ?_ | (refine Qn rfl (k79 h) ?_;rintro r h1 ⟨e1,rfl⟩;have m1:=sm.ext e1) | (refine Qn rfl (k78 h1 m1) ?_;rintro r h2 ⟨e2,s1,s2,rfl,m2⟩) | refine Qm rfl ?_ | refine QM rfl rfl (by omega) ?_ | refine Qw rfl rfl (by omega) ?_ | refine X6 rfl rfl ?_))
    exact Qs (j:=P.length-(i+1)) (by omega) ⟨i+1,s1,s2,by omega,rfl,(sg.ext e1).ext e2,m2,rfl⟩
  · have:i=P.length:=by omega
    subst this
    rw [List.take_length] at sm
    repeat' (first | refine Qg ?_ | refine Qb ?_ | refine QK ?_ | refine QH ?_ | refine Qf ?_ | ((refine Qh ?_);refine Qi rfl ?_) | ((refine Qe ?_);refine Q4 rfl rfl rfl rfl rfl rfl rfl ?_) | ((refine Qc ?_);first | refine QQ rfl ?_ | refine Q6 rfl c2 ?_ | refine Qu rfl ls ?_ | refine Qm rfl ?_ | refine QE rfl rfl (by omega) ?_))
    exact Qz ⟨rfl,sx,st,_,_,sg,sm,rfl⟩
structure St49b (h0 h:Qa) (q3 q4:Nat) (t:SV) (bq:Bool):Prop where
  e:Ext h0 h
  c3:Cel h q3 t (.bool bq)
  c4:Cel h q4 .nilS (.bool false)
theorem St49b.ext {h0 h h':Qa} {q3 q4:Nat} {t:SV} {bq:Bool} (u:St49b h0 h q3 q4 t bq) (e:Ext h h'):St49b h0 h' q3 q4 t bq:=⟨u.e.trans e,u.c3.ext e,u.c4.ext e⟩
def I49b (h0:Qa) (q3 q4:Nat) (t:SV) (bq:Bool) (Q M0:List Tm) (n0:Nat) (k:Nat) (E:Env) (h:Qa):Prop:=∃ (i:Nat) (sx st:SV),i≤Q.length∧k=Q.length-i∧St49b h0 h q3 q4 t bq∧Sm2 h sx st (Xn (Q.take i) M0) (n0+i) cM ∧
  E.keep [3,4,5,6,8]=[(3,some (.sc (.ptr q3 0))),(4,some (.sc (.ptr q4 0))),(5,some (.sc sx)),(6,some (.sc st)),(8,some (.sc (.int .i64 (i:Nat))))]
def R49b (h0:Qa) (q3 q4:Nat) (t:SV) (bq:Bool) (Q M0:List Tm) (n0:Nat) (ex:Ex) (E:Env) (h:Qa):Prop:=ex=.ex 2∧∃ sx st a b c,St49b h0 h q3 q4 t bq∧Sm2 h sx st (Xn Q M0) (n0+Q.length) cM ∧
  E=[(3,a),(4,some (.sc (.ptr q4 0))),(5,some (.sc sx)),(6,some (.sc st)),(8,b),(46,c)]
theorem Qeg (h0:Qa) (q3 q4:Nat) (t:SV) (bq:Bool) (Q M0:List Tm) (n0:Nat) (hn0:n0≤1000) (hp:IsD h0 t (tms Q)) (hc:∀ t∈Q,t.2.natAbs≤cM) (hn:Q.length≤1000) (k:Nat) (E:Env) (h:Qa) (hI:I49b h0 q3 q4 t bq Q M0 n0 k E h) :
    wA FT HKt Qi7 (E.keep [3,4,5,6,8]) h (Qo (I49b h0 q3 q4 t bq Q M0 n0) k (R49b h0 q3 q4 t bq Q M0 n0)):=by
  obtain ⟨i,sx,st,hi,rfl,sg,sm,hE⟩:=hI
  rw [hE]
  have ls:=hp.len
  rw [Xg] at ls
  have c3:=sg.c3
  by_cases hlt:i < Q.length
  · obtain ⟨u,hu⟩:∃ u,Q[i]?=some u:=⟨_,List.getElem?_eq_getElem hlt⟩
    have hcu:=hc u (List.mem_of_getElem? hu)
    obtain ⟨id,off,cap,rfl,rd0⟩:=IsD.at hp (i:=i) (p:=tmP u) (by rw [List.getElem?_map,hu];rfl)
    have rd:=QA sg.e rd0
    obtain ⟨rda,rdb⟩:=rd1 rd
    have k79:=fun H=>QbK H u.2 1 hcu (by decide)
    rw [Int.mul_one] at k79
    have k78:=fun H (m:Sm2 H sx st (Xn (Q.take i) M0) (n0+i) cM)=>VV H sx st u.1 u.2 _ (n0+i) cM m (by omega) (by simp only [cM];omega) (by simp only [cM] at hcu;omega) hcu
    rw [← Jx hu] at k78
    rw [Xg] at ls c3 sg ⊢
    repeat' (first | refine Qg ?_ | refine Qb ?_ | refine Qt ?_ | refine QG ?_ | refine Qp ?_ | refine Qf ?_ | refine Xb ?_ | refine Xq ?_ | refine Xr ?_ | ((refine Qh ?_);refine Qk rfl ?_) | ((refine Qe ?_);first | refine Xd ?_ | refine XI ?_ | refine XD (by assumption) ?_ | refine QO rfl rfl rfl rfl rfl ?_ | refine QD rfl rfl rfl rfl rfl rfl ?_) | ((refine Qc ?_);first | refine QQ rfl ?_ | refine Q6 rfl c3 ?_ | refine Qu rfl ls ?_ | refine Qx (esz:=2) rfl rfl (by omega) ?_ | refine Q2 rfl rda ?_ | refine Q2 rfl rdb ?_ | (refine Qn rfl (k79 h) ?_;rintro r h1 ⟨e1,rfl⟩;have m1:=sm.ext e1) | (refine Qn rfl (k78 h1 m1) ?_;rintro r h2 ⟨e2,s1,s2,rfl,m2⟩) | refine Qm rfl ?_ | refine QM rfl rfl (by omega) ?_ | refine Qw rfl rfl (by omega) ?_ | refine X6 rfl rfl ?_))
    exact Qs (j:=Q.length-(i+1)) (by omega) ⟨i+1,s1,s2,by omega,rfl,(sg.ext e1).ext e2,m2,rfl⟩
  · have:i=Q.length:=by omega
    subst this
    rw [List.take_length] at sm
    repeat' (first | refine Qg ?_ | refine Qb ?_ | refine QK ?_ | refine QH ?_ | refine Qf ?_ | ((refine Qh ?_);refine Qi rfl ?_) | ((refine Qe ?_);refine QD rfl rfl rfl rfl rfl rfl ?_) | ((refine Qc ?_);first | refine QQ rfl ?_ | refine Q6 rfl c3 ?_ | refine Qu rfl ls ?_ | refine Qm rfl ?_ | refine QE rfl rfl (by omega) ?_))
    exact Qz ⟨rfl,sx,st,_,_,_,sg,sm,rfl⟩
noncomputable def Uy (p q:Pol):Pol:=if p.big=true∨q.big=true then JY else Y8 (Xn q.ts (Xn p.ts []))
theorem Qh7 (h0:Qa) (s t:SV) (p q:Pol) (hp:IsD h0 s (tms p.ts)) (hq:IsD h0 t (tms q.ts)) (hcp:∀ t∈p.ts,t.2.natAbs≤cM) (hcq:∀ t∈q.ts,t.2.natAbs≤cM) (hnp:p.ts.length≤1000) (hnq:q.ts.length≤1000) :
    ∃ r h',Cal FT HKt 49 [.agg [s,.bool p.big],.agg [t,.bool q.big]] h0 r h'∧Ext h0 h'∧QjQ h0 h' r (Uy p q):=by
  refine Cal.of (F:=a49) rfl rfl rfl ?_
  obtain ⟨bp,P⟩:=p
  obtain ⟨bq,Q⟩:=q
  simp only at *
  cases bp with
  | true =>
    have e:Uy ⟨true,P⟩ ⟨bq,Q⟩=JY:=by unfold Uy;rw [if_pos (.inl rfl)]
    rw [e]
    repeat' (first | refine Qg ?_ | refine Qb ?_ | refine QL ?_ | refine Qv ?_ | refine Qf ?_ | ((refine Qh ?_);refine Qk rfl ?_) | ((refine Qe ?_);first | refine Qq rfl ?_ | refine QB rfl rfl rfl ?_ | refine QS rfl rfl rfl rfl ?_) | ((refine Qc ?_);first | (have z:=e2;refine Xz ?_;intro h3 e3 c4;have d2:=(c2.ext e2).ext e3) | (have z:=e1;refine Q3 rfl ?_;intro h2 e2 c3) | (refine Q3 rfl ?_;intro h1 e1 c2) | refine QQ rfl ?_ | refine Xc rfl d2 ?_ | refine X5 rfl rfl ?_ | (refine Xw rfl rfl c4 ?_;intro h5 w5) | refine Xo rfl ?_ | refine Qm rfl ?_ | refine QY rfl rfl ?_))
    exact ⟨.inr rfl,XM rfl w5.cel.read ⟨w5.ext (e1.trans (e2.trans e3)) (Nat.le_trans e1.len e2.len),.nilS,rfl,.inl ⟨rfl,rfl⟩⟩⟩
  | false =>
  cases bq with
  | true =>
    have e:Uy ⟨false,P⟩ ⟨true,Q⟩=JY:=by unfold Uy;rw [if_pos (.inr rfl)]
    rw [e]
    repeat' (first | refine Qg ?_ | refine Qb ?_ | refine QL ?_ | refine Qv ?_ | refine Qf ?_ | ((refine Qh ?_);refine Qk rfl ?_) | ((refine Qe ?_);first | refine Qq rfl ?_ | refine QB rfl rfl rfl ?_ | refine QS rfl rfl rfl rfl ?_) | ((refine Qc ?_);first | (have z:=e2;refine Xz ?_;intro h3 e3 c4;have d2:=(c2.ext e2).ext e3;have d3:=c3.ext e3) | (have z:=e1;refine Q3 rfl ?_;intro h2 e2 c3) | (refine Q3 rfl ?_;intro h1 e1 c2) | refine QQ rfl ?_ | refine Xc rfl d2 ?_ | refine Xc rfl d3 ?_ | refine X5 rfl rfl ?_ | (refine Xw rfl rfl c4 ?_;intro h5 w5) | refine QX rfl ?_ | refine Qm rfl ?_ | refine QU rfl rfl ?_))
    exact ⟨.inr rfl,XM rfl w5.cel.read ⟨w5.ext (e1.trans (e2.trans e3)) (Nat.le_trans e1.len e2.len),.nilS,rfl,.inl ⟨rfl,rfl⟩⟩⟩
  | false =>
  have e:Uy ⟨false,P⟩ ⟨false,Q⟩=Y8 (Xn Q (Xn P [])):=by unfold Uy;rw [if_neg (by simp)]
  rw [e]
  repeat' (first | refine Qg ?_ | refine Qb ?_ | refine Qt ?_ | refine Qp ?_ | refine Qf ?_ | ((refine Qh ?_);refine Qi rfl ?_) | ((refine Qe ?_);first | refine QB rfl rfl rfl ?_ | refine QS rfl rfl rfl rfl ?_ | refine QO rfl rfl rfl rfl rfl ?_ | refine QD rfl rfl rfl rfl rfl rfl ?_) | ((refine Qc ?_);first | (have z:=e2;refine Xz ?_;intro h3 e3 c4;have d2:=(c2.ext e2).ext e3;have d3:=c3.ext e3) | (have z:=e1;refine Q3 rfl ?_;intro h2 e2 c3) | (refine Q3 rfl ?_;intro h1 e1 c2) | refine QQ rfl ?_ | refine Xc rfl d2 ?_ | refine Xc rfl d3 ?_ | refine QX rfl ?_ | refine Qm rfl ?_ | refine QU rfl rfl ?_))
  have x3:=e1.trans (e2.trans e3)
  refine QP (I49a h0 h0.length h1.length h2.length s t false false P) P.length (R49a h0 h0.length h1.length h2.length s t false false P) ⟨0,.nilS,.nilS,Nat.zero_le _,rfl,⟨x3,d2,d3,c4⟩,⟨.inl ⟨rfl,rfl,rfl⟩,IsD.nil _,by simp [Xn],by simp [Xn]⟩,rfl⟩ (Qeh h0 h0.length h1.length h2.length s t false false P hp hcp hnp) ?_
  rintro ex E' h4 ⟨rfl,sx,st,a,b,sg,sm,rfl⟩
  repeat' (first | refine Qg ?_ | refine Qb ?_ | refine Qt ?_ | refine QC ?_ | refine Qf ?_ | ((refine Qe ?_);refine QO rfl rfl rfl rfl rfl ?_) | ((refine Qc ?_);refine Qm rfl ?_))
  refine QP (I49b h0 h1.length h2.length t false Q (Xn P []) P.length) Q.length (R49b h0 h1.length h2.length t false Q (Xn P []) P.length) ⟨0,sx,st,Nat.zero_le _,rfl,⟨sg.e,sg.c3,sg.c4⟩,sm,rfl⟩ (Qeg h0 h1.length h2.length t false Q (Xn P []) P.length hnp hq hcq hnq) ?_
  rintro ex E' h5 ⟨rfl,sx',st',a',b',c',sg',sm',rfl⟩
  have k80:=fun H (x:IsInts H sx' ((Xn Q (Xn P [])).map (·.1))) (y:IsD H st' ((Xn Q (Xn P [])).map wp))=>QcL H sx' st' _ x y (by have:=sm'.len;omega)
  repeat' (first | refine Qg ?_ | refine Qb ?_ | refine QC ?_ | refine Qv ?_ | refine Qf ?_ | ((refine Qe ?_);refine Qq rfl ?_) | ((refine Qc ?_);first | (refine Qn rfl (k80 h5 sm'.x sm'.t) ?_;rintro r h6 ⟨e6,ss,rfl,ds⟩;have c46:=sg'.c4.ext e6) | (refine Xw rfl rfl c46 ?_;intro h7 w7) | refine Qm rfl ?_))
  exact ⟨.inr rfl,XM rfl w7.cel.read ⟨w7.ext (sg'.e.trans e6) (Nat.le_trans e1.len e2.len),ss,rfl,(ds.weaken sg'.e.len).wrC w7⟩⟩
theorem QfH (h0:Qa) (s t:SV) (p q:Pol) (hp:IsD h0 s (tms p.ts)) (hq:IsD h0 t (tms q.ts)) (hcp:∀ t∈p.ts,t.2.natAbs≤cM) (hcq:∀ t∈q.ts,t.2.natAbs≤cM) (hnp:p.ts.length≤1000) (hnq:q.ts.length≤1000) :
    ∃ r h',Cal FT HKt 49 [.agg [s,.bool p.big],.agg [t,.bool q.big]] h0 r h'∧Ext h0 h'∧IsRf h' r (Uy p q):=by
  obtain ⟨r,h',a,b,z,c,d⟩:=Qh7 h0 s t p q hp hq hcp hcq hnp hnq
  exact ⟨r,h',a,b,z,c,d.is⟩
end Go.Proofs.YtofknpknogfijaaGreatDoor


namespace Go.Proofs.YtofknpknogfijaaGreatDoor
open Go.Ab
set_option linter.unusedVariables false
set_option linter.unusedSimpArgs false
set_option maxRecDepth 20000
set_option maxHeartbeats 4000000
attribute [local irreducible] Qj wA Xm Xk QI Qo QW QV
set_option linter.unusedSectionVars false
variable [HB]
def mt (a b:Tm):Tm:=(a.1+b.1,a.2*b.2)
abbrev bM:Nat:=9903520314283042199192993792
def XN (P Q M:List Tm):List Tm:=P.foldl (fun M a=>Xn (Q.map (mt a)) M) M
theorem QaD {P Q M:List Tm} {a:Tm} {i:Nat} (h:P[i]?=some a):XN (P.take (i+1)) Q M=Xn (Q.map (mt a)) (XN (P.take i) Q M):=by
  unfold XN
  rw [List.take_add_one,h,List.foldl_append]
  rfl
def I46b (h0:Qa) (q2 q3 q4:Nat) (s t:SV) (bp bq:Bool) (Q:List Tm) (a:Tm) (M0:List Tm) (n0 i:Nat) (k:Nat) (E:Env) (h:Qa):Prop:=∃ (j:Nat) (sx st:SV),j≤Q.length∧k=Q.length-j∧St49 h0 h q2 q3 q4 s t bp bq∧Sm2 h sx st (Xn ((Q.map (mt a)).take j) M0) (n0+j) bM ∧
  E.keep [2,3,4,5,6,7,8]=[(2,some (.sc (.ptr q2 0))),(3,some (.sc (.ptr q3 0))),(4,some (.sc (.ptr q4 0))),(5,some (.sc sx)),(6,some (.sc st)),(7,some (.sc (.int .i64 (i:Nat)))),(8,some (.sc (.int .i64 (j:Nat))))]
def R46b (h0:Qa) (q2 q3 q4:Nat) (s t:SV) (bp bq:Bool) (Q:List Tm) (a:Tm) (M0:List Tm) (n0 i:Nat) (ex:Ex) (E:Env) (h:Qa):Prop:=ex=.ex 2∧∃ sx st b c,St49 h0 h q2 q3 q4 s t bp bq∧Sm2 h sx st (Xn (Q.map (mt a)) M0) (n0+Q.length) bM ∧
  E=[(2,some (.sc (.ptr q2 0))),(3,some (.sc (.ptr q3 0))),(4,some (.sc (.ptr q4 0))),(5,some (.sc sx)),(6,some (.sc st)),(7,some (.sc (.int .i64 (i:Nat)))),(8,b),(27,c)]
theorem Qej (h0:Qa) (q2 q3 q4:Nat) (s t:SV) (bp bq:Bool) (P Q:List Tm) (hp:IsD h0 s (tms P)) (hq:IsD h0 t (tms Q)) (a:Tm) (i:Nat) (ha:P[i]?=some a) (hca:a.2.natAbs≤cM∧a.1.natAbs≤1000000000) (hcq:∀ t∈Q,t.2.natAbs≤cM∧t.1.natAbs≤1000000000) (hprb:∀ t∈Q,(a.2*t.2).natAbs≤bM) (hnp:P.length≤1000) (M0:List Tm) (n0:Nat) (hn:n0+Q.length≤2048) (k:Nat) (E:Env) (h:Qa) (hI:I46b h0 q2 q3 q4 s t bp bq Q a M0 n0 i k E h) :
    wA FT HKt Qjc (E.keep [2,3,4,5,6,7,8]) h (Qo (I46b h0 q2 q3 q4 s t bp bq Q a M0 n0 i) k (R46b h0 q2 q3 q4 s t bp bq Q a M0 n0 i)):=by
  obtain ⟨j,sx,st,hj,rfl,sg,sm,hE⟩:=hI
  rw [hE]
  have ls:=hq.len
  rw [Xg] at ls
  have c2:=sg.c2
  have c3:=sg.c3
  have hiP:i < P.length:=(List.getElem?_eq_some_iff.1 ha).1
  by_cases hlt:j < Q.length
  · obtain ⟨u,hu⟩:∃ u,Q[j]?=some u:=⟨_,List.getElem?_eq_getElem hlt⟩
    have hcu:=hcq u (List.mem_of_getElem? hu)
    obtain ⟨id,off,cap,rfl,rd0⟩:=IsD.at hp (i:=i) (p:=tmP a) (by rw [List.getElem?_map,ha];rfl)
    obtain ⟨id2,off2,cap2,rfl,rd20⟩:=IsD.at hq (i:=j) (p:=tmP u) (by rw [List.getElem?_map,hu];rfl)
    obtain ⟨rda,rdb⟩:=rd1 (QA sg.e rd0)
    obtain ⟨rea,reb⟩:=rd1 (QA sg.e rd20)
    have k79:=fun H=>QbK H a.2 u.2 hca.1 hcu.1
    have hpr:(a.2*u.2).natAbs≤bM:=hprb u (List.mem_of_getElem? hu)
    have hum:(Q.map (mt a))[j]?=some (mt a u):=by rw [List.getElem?_map,hu];rfl
    have k78:=fun H (m:Sm2 H sx st (Xn ((Q.map (mt a)).take j) M0) (n0+j) bM)=>VV H sx st (a.1+u.1) (a.2*u.2) _ (n0+j) bM m (by omega) (by simp only [bM];omega) (by simp only [bM] at hpr;omega) hpr
    have hsn:YF (a.1+u.1) (a.2*u.2) (Xn ((Q.map (mt a)).take j) M0)=Xn ((Q.map (mt a)).take (j+1)) M0:=(Jx hum).symm
    rw [hsn] at k78
    simp only [Xg] at ls c3 c2 sg ⊢
    repeat' (first | refine Qg ?_ | refine Qb ?_ | refine Qt ?_ | refine QG ?_ | refine Qp ?_ | refine Qf ?_ | refine Xb ?_ | refine Xq ?_ | refine Xr ?_ | ((refine Qh ?_);refine Qk rfl ?_) | ((refine Qe ?_);first | refine Xd ?_ | refine XI ?_ | refine XD (by assumption) ?_ | refine Q4 rfl rfl rfl rfl rfl rfl rfl ?_ | refine Q8 rfl rfl rfl rfl rfl rfl rfl rfl ?_) | ((refine Qc ?_);first | refine QQ rfl ?_ | refine Q6 rfl c2 ?_ | refine Q6 rfl c3 ?_ | refine Qu rfl ls ?_ | refine Qx (esz:=2) rfl rfl (by omega) ?_ | refine Q2 rfl rda ?_ | refine Q2 rfl rdb ?_ | refine Q2 rfl rea ?_ | refine Q2 rfl reb ?_ | (refine Qn rfl (k79 h) ?_;rintro r h1 ⟨e1,rfl⟩;have m1:=sm.ext e1) | (refine Qn rfl (k78 h1 m1) ?_;rintro r h2 ⟨e2,s1,s2,rfl,m2⟩) | refine Qm rfl ?_ | refine QM rfl rfl (by omega) ?_ | refine Qw rfl rfl (by omega) ?_ | refine X6 rfl rfl ?_))
    exact Qs (j:=Q.length-(j+1)) (by omega) ⟨j+1,s1,s2,by omega,rfl,(sg.ext e1).ext e2,m2,rfl⟩
  · have:j=Q.length:=by omega
    subst this
    rw [List.take_of_length_le (by simp)] at sm
    repeat' (first | refine Qg ?_ | refine Qb ?_ | refine QK ?_ | refine QH ?_ | refine Qf ?_ | ((refine Qh ?_);refine Qi rfl ?_) | ((refine Qe ?_);refine Q8 rfl rfl rfl rfl rfl rfl rfl rfl ?_) | ((refine Qc ?_);first | refine QQ rfl ?_ | refine Q6 rfl c3 ?_ | refine Qu rfl ls ?_ | refine Qm rfl ?_ | refine QE rfl rfl (by omega) ?_))
    exact Qz ⟨rfl,sx,st,_,_,sg,sm,rfl⟩
def I46a (h0:Qa) (q2 q3 q4:Nat) (s t:SV) (bp bq:Bool) (P Q:List Tm) (k:Nat) (E:Env) (h:Qa):Prop:=∃ (i:Nat) (sx st:SV),i≤P.length∧k=P.length-i∧St49 h0 h q2 q3 q4 s t bp bq∧Sm2 h sx st (XN (P.take i) Q []) (i*Q.length) bM ∧
  E.keep [2,3,4,5,6,7]=[(2,some (.sc (.ptr q2 0))),(3,some (.sc (.ptr q3 0))),(4,some (.sc (.ptr q4 0))),(5,some (.sc sx)),(6,some (.sc st)),(7,some (.sc (.int .i64 (i:Nat))))]
def R46a (h0:Qa) (q2 q3 q4:Nat) (s t:SV) (bp bq:Bool) (P Q:List Tm) (ex:Ex) (E:Env) (h:Qa):Prop:=ex=.ex 0∧∃ sx st a b c d,St49 h0 h q2 q3 q4 s t bp bq∧Sm2 h sx st (XN P Q []) (P.length*Q.length) bM ∧
  E=[(2,a),(3,b),(4,some (.sc (.ptr q4 0))),(5,some (.sc sx)),(6,some (.sc st)),(7,c),(20,d)]
theorem Qek (h0:Qa) (q2 q3 q4:Nat) (s t:SV) (bp bq:Bool) (P Q:List Tm) (hp:IsD h0 s (tms P)) (hq:IsD h0 t (tms Q)) (hcp:∀ t∈P,t.2.natAbs≤cM∧t.1.natAbs≤1000000000) (hcq:∀ t∈Q,t.2.natAbs≤cM∧t.1.natAbs≤1000000000) (hprb:∀ a∈P,∀ t∈Q,(a.2*t.2).natAbs≤bM) (hnp:P.length≤1000) (hn:P.length*Q.length≤2048) (k:Nat) (E:Env) (h:Qa) (hI:I46a h0 q2 q3 q4 s t bp bq P Q k E h) :
    wA FT HKt Qjd (E.keep [2,3,4,5,6,7]) h (Qo (I46a h0 q2 q3 q4 s t bp bq P Q) k (R46a h0 q2 q3 q4 s t bp bq P Q)):=by
  obtain ⟨i,sx,st,hi,rfl,sg,sm,hE⟩:=hI
  rw [hE]
  have ls:=hp.len
  rw [Xg] at ls
  have c2:=sg.c2
  by_cases hlt:i < P.length
  · obtain ⟨a,ha⟩:∃ a,P[i]?=some a:=⟨_,List.getElem?_eq_getElem hlt⟩
    have hn1:i*Q.length+Q.length≤2048:=by
      rw [← Nat.succ_mul]
      exact Nat.le_trans (Nat.mul_le_mul_right _ hlt) hn
    repeat' (first | refine Qg ?_ | refine Qb ?_ | refine Qt ?_ | refine Qp ?_ | refine Qf ?_ | ((refine Qh ?_);refine Qk rfl ?_) | ((refine Qe ?_);refine Q4 rfl rfl rfl rfl rfl rfl rfl ?_) | ((refine Qc ?_);first | refine QQ rfl ?_ | refine Q6 rfl c2 ?_ | refine Qu rfl ls ?_ | refine Qm rfl ?_ | refine Qw rfl rfl (by omega) ?_))
    refine QP (I46b h0 q2 q3 q4 s t bp bq Q a (XN (P.take i) Q []) (i*Q.length) i) Q.length (R46b h0 q2 q3 q4 s t bp bq Q a (XN (P.take i) Q []) (i*Q.length) i) ⟨0,sx,st,Nat.zero_le _,rfl,sg,sm,rfl⟩ (Qej h0 q2 q3 q4 s t bp bq P Q hp hq a i ha (hcp a (List.mem_of_getElem? ha)) hcq (hprb a (List.mem_of_getElem? ha)) hnp _ _ hn1) ?_
    rintro ex E' h2 ⟨rfl,sx',st',b,c,sg',sm',rfl⟩
    rw [← QaD ha,← Nat.succ_mul] at sm'
    repeat' (first | refine Qb ?_ | refine QG ?_ | refine QC ?_ | refine Qf ?_ | ((refine Qe ?_);refine QD rfl rfl rfl rfl rfl rfl ?_) | ((refine Qc ?_);first | refine Qm rfl ?_ | refine QM rfl rfl (by omega) ?_))
    exact Qs (j:=P.length-(i+1)) (by omega) ⟨i+1,sx',st',by omega,rfl,sg',sm',rfl⟩
  · have:i=P.length:=by omega
    subst this
    rw [List.take_length] at sm
    repeat' (first | refine Qg ?_ | refine Qb ?_ | refine QK ?_ | refine QH ?_ | refine Qf ?_ | ((refine Qh ?_);refine Qi rfl ?_) | ((refine Qe ?_);refine Q4 rfl rfl rfl rfl rfl rfl rfl ?_) | ((refine Qc ?_);first | refine QQ rfl ?_ | refine Q6 rfl c2 ?_ | refine Qu rfl ls ?_ | refine Qm rfl ?_ | refine QE rfl rfl (by omega) ?_))
    exact Qz ⟨rfl,sx,st,_,_,_,_,sg,sm,rfl⟩
theorem Qle (h0:Qa) (s t:SV) (P Q:List Tm) (hp:IsD h0 s (tms P)) (hq:IsD h0 t (tms Q)) (hcp:∀ t∈P,t.2.natAbs≤cM∧t.1.natAbs≤1000000000) (hcq:∀ t∈Q,t.2.natAbs≤cM∧t.1.natAbs≤1000000000) (hprb:∀ a∈P,∀ t∈Q,(a.2*t.2).natAbs≤bM) (hnp:P.length≤1000) (hn:P.length*Q.length≤2048) :
    ∃ r h',Cal FT HKt 46 [.agg [s,.bool false],.agg [t,.bool false]] h0 r h'∧Ext h0 h'∧IsRf h' r (Y8 (XN P Q [])):=by
  refine Cal.of (F:=a46) rfl rfl rfl ?_
  repeat' (first | refine Qg ?_ | refine Qb ?_ | refine Qt ?_ | refine Qp ?_ | refine Qf ?_ | ((refine Qh ?_);refine Qi rfl ?_) | ((refine Qe ?_);first | refine QB rfl rfl rfl ?_ | refine QS rfl rfl rfl rfl ?_ | refine QO rfl rfl rfl rfl rfl ?_ | refine QD rfl rfl rfl rfl rfl rfl ?_) | ((refine Qc ?_);first | (have z:=e2;refine Xz ?_;intro h3 e3 c4;have d2:=(c2.ext e2).ext e3;have d3:=c3.ext e3) | (have z:=e1;refine Q3 rfl ?_;intro h2 e2 c3) | (refine Q3 rfl ?_;intro h1 e1 c2) | refine QQ rfl ?_ | refine Xc rfl d2 ?_ | refine Xc rfl d3 ?_ | refine QX rfl ?_ | refine Qm rfl ?_ | refine QU rfl rfl ?_))
  have x3:=e1.trans (e2.trans e3)
  refine QP (I46a h0 h0.length h1.length h2.length s t false false P Q) P.length (R46a h0 h0.length h1.length h2.length s t false false P Q) ⟨0,.nilS,.nilS,Nat.zero_le _,rfl,⟨x3,d2,d3,c4⟩,⟨.inl ⟨rfl,rfl,rfl⟩,IsD.nil _,by simp [XN],by simp [XN]⟩,rfl⟩ (Qek h0 h0.length h1.length h2.length s t false false P Q hp hq hcp hcq hprb hnp hn) ?_
  rintro ex E' h5 ⟨rfl,sx',st',a',b',c',d',sg',sm',rfl⟩
  have k80:=fun H (x:IsInts H sx' ((XN P Q []).map (·.1))) (y:IsD H st' ((XN P Q []).map wp))=>Qk7 H sx' st' _ x y (by have:=sm'.len;omega)
  repeat' (first | refine Qg ?_ | refine Qb ?_ | refine QC ?_ | refine Qv ?_ | refine Qf ?_ | ((refine Qe ?_);refine Qq rfl ?_) | ((refine Qc ?_);first | (refine Qn rfl (k80 h5 sm'.x sm'.t) ?_;rintro r h6 ⟨e6,ss,rfl,ds⟩;have c46:=sg'.c4.ext e6) | (refine Xw rfl rfl c46 ?_;intro h7 w7) | refine Qm rfl ?_))
  exact ⟨.inr rfl,XM rfl w7.cel.read ⟨w7.ext (sg'.e.trans e6) (Nat.le_trans e1.len e2.len),ss,rfl,ds.wrC w7⟩⟩
end Go.Proofs.YtofknpknogfijaaGreatDoor

