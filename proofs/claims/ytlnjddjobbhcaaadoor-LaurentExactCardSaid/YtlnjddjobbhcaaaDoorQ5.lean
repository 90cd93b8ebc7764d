/- Division: contract. -/
import Derived.Test.YtlnjddjobbhcaaaDoorQ4
namespace Go.Proofs.YtlnjddjobbhcaaaDoor
open Go.Ab
set_option linter.unusedVariables false
set_option linter.unusedSimpArgs false
set_option maxRecDepth 20000
set_option maxHeartbeats 8000000
attribute [local irreducible] wOps wA wSeq wBlk wRound wRoundI wOpsD wOpsS

noncomputable def divA (p q : Pol) : Pol × Int := open Classical in
  if p.big = true ∨ q.big = true then (zeroP, 9) else
  match q.ts with
  | [] => (zeroP, 2)
  | b :: q' => if p.ts = [] then (zeroP, 0) else if q' = [] then divP p.ts b else
    match dvR p.ts (b :: q') cM eM with
    | some r => (⟨false, r⟩, 0)
    | none => (zeroP, 10)
structure Sb (h0 h : Heap) (q2 q3 q4 : Nat) (bp bq : Bool) (sp sq : SV) : Prop where
  e : Ext h0 h
  c2 : Cel h q2 (.bool bp) sp
  c3 : Cel h q3 (.bool bq) sq
  c4 : Cel h q4 (.bool false) .nilS
theorem Sb.ext {h0 h h' : Heap} {q2 q3 q4 : Nat} {bp bq : Bool} {sp sq : SV} (st : Sb h0 h q2 q3 q4 bp bq sp sq) (he : Ext h h') : Sb h0 h' q2 q3 q4 bp bq sp sq :=
  ⟨st.e.trans he, st.c2.ext he, st.c3.ext he, st.c4.ext he⟩
theorem smL_rest {P Q : List Tm} {r : List Tm} {N Ln : Nat} :
    (∀ k < ((smL (fun e => cf P e - mc r Q e) (lo0 P) N).drop (Ln + 1)).length, ((smL (fun e => cf P e - mc r Q e) (lo0 P) N).drop (Ln + 1)).getD k 0 = 0) ↔ ∀ k : Nat, Ln < k → k < N → rk P Q r k = 0 := by
  rw [List.length_drop, smL_len]
  constructor
  · intro h k h1 h2
    have := h (k - (Ln + 1)) (by omega)
    rw [List.getD_eq_getElem?_getD, List.getElem?_drop, show Ln + 1 + (k - (Ln + 1)) = k by omega, smL_get h2] at this
    exact this
  · intro h k hk
    rw [List.getD_eq_getElem?_getD, List.getElem?_drop, smL_get (by omega)]
    exact h (Ln + 1 + k) (by omega) (by omega)
theorem dvR_some {P Q r : List Tm} {N Ln : Nat} (hN : (N : Int) = hi0 P - lo0 P + 1) (hL : (Ln : Int) = dvN P Q) (h1 : dvL P Q cM eM (Ln + 1) = some r) (h2 : ∀ k : Nat, Ln < k → k < N → rk P Q r k = 0) : dvR P Q cM eM = some r := by
  unfold dvR
  rw [if_neg (by omega), show (dvN P Q).toNat = Ln by omega, h1, Option.bind_some, if_pos fun k a b => h2 k a (by omega)]
theorem dvR_none1 {P Q : List Tm} {Ln : Nat} (hL : (Ln : Int) = dvN P Q) (h1 : dvL P Q cM eM (Ln + 1) = none) : dvR P Q cM eM = none := by
  unfold dvR
  rw [if_neg (by omega), show (dvN P Q).toNat = Ln by omega, h1]; rfl
theorem dvR_none2 {P Q r : List Tm} {N Ln : Nat} (hN : (N : Int) = hi0 P - lo0 P + 1) (hL : (Ln : Int) = dvN P Q) (h1 : dvL P Q cM eM (Ln + 1) = some r) (h2 : ¬ ∀ k : Nat, Ln < k → k < N → rk P Q r k = 0) : dvR P Q cM eM = none := by
  unfold dvR
  rw [if_neg (by omega), show (dvN P Q).toNat = Ln by omega, h1, Option.bind_some, if_neg fun h => h2 fun k a b => h k a (by omega)]
theorem call13 (h0 : Heap) (sp sq : SV) (P Q : Pol) (hp : IsD h0 sp (tms P.ts)) (hq : IsD h0 sq (tms Q.ts)) (kp : Pok P) (kq : Pok Q) :
    ∃ r h', Cal FT HKt 13 [.agg [.bool P.big, sp], .agg [.bool Q.big, sq]] h0 r h' ∧ Ext h0 h' ∧ IsPE h' r (divA P Q).1 (divA P Q).2 := by
  refine Cal.of (F := a13) rfl rfl rfl ?_
  have lp := hp.len
  have lq := hq.len
  rw [tms_len] at lp lq
  by_cases hbp : P.big = true
  · have e : divA P Q = (zeroP, 9) := by unfold divA; rw [if_pos (.inl hbp)]
    rw [e, hbp]
    repeat' (first | refine w_seq ?_ | refine w_seqN ?_ | refine w_seqR ?_ | refine w_blk ?_ | refine w_blkR ?_ | refine w_ret ?_ | refine w_ops ?_ | ((refine i_cond ?_); refine w_condT rfl ?_) | ((refine i_nil ?_); first | refine w_end2 rfl rfl ?_ | refine w_end3 rfl rfl rfl ?_ | refine w_end4 rfl rfl rfl rfl ?_) | ((refine i_cons ?_); first | (have z := e2; refine k_newC ?_; intro h3 e3 c3; have b3 : Sb h0 h3 h0.length h1.length h2.length true Q.big sp sq := ⟨e1.trans (e2.trans e3), (c1.ext e2).ext e3, c2.ext e3, c3⟩) | (have z := e1; refine k_boxC rfl ?_; intro h2 e2 c2) | (refine k_boxC rfl ?_; intro h1 e1 c1) | refine k_ldC0 rfl b3.c2 ?_ | (refine k_bld rfl rfl ?_) | (have c4 := b3.c4; refine k_stC rfl rfl c4 ?_; intro h4 w4) | refine k_skip rfl ?_ | refine k_mv rfl ?_ | refine k_pickT rfl rfl ?_ | refine k_ok rfl rfl ?_))
    exact ⟨.inr rfl, oK_cellt rfl w4.cel.read rfl ⟨w4.ext b3.e (Nat.le_trans e1.len e2.len), .nilS, rfl, IsD.nil _⟩⟩
  have hbp' : P.big = false := by simpa using hbp
  rw [hbp']
  by_cases hbq : Q.big = true
  · have e : divA P Q = (zeroP, 9) := by unfold divA; rw [if_pos (.inr hbq)]
    rw [e, hbq]
    repeat' (first | refine w_seq ?_ | refine w_seqN ?_ | refine w_seqR ?_ | refine w_blk ?_ | refine w_blkR ?_ | refine w_ret ?_ | refine w_ops ?_ | ((refine i_cond ?_); refine w_condT rfl ?_) | ((refine i_nil ?_); first | refine w_end2 rfl rfl ?_ | refine w_end3 rfl rfl rfl ?_ | refine w_end4 rfl rfl rfl rfl ?_) | ((refine i_cons ?_); first | (have z := e2; refine k_newC ?_; intro h3 e3 c3; have b3 : Sb h0 h3 h0.length h1.length h2.length false true sp sq := ⟨e1.trans (e2.trans e3), (c1.ext e2).ext e3, c2.ext e3, c3⟩) | (have z := e1; refine k_boxC rfl ?_; intro h2 e2 c2) | (refine k_boxC rfl ?_; intro h1 e1 c1) | refine k_ldC0 rfl b3.c2 ?_ | refine k_ldC0 rfl b3.c3 ?_ | (refine k_bld rfl rfl ?_) | (have c4 := b3.c4; refine k_stC rfl rfl c4 ?_; intro h4 w4) | refine k_want rfl ?_ | refine k_mv rfl ?_ | refine k_pickF rfl rfl ?_ | refine k_ok rfl rfl ?_))
    exact ⟨.inr rfl, oK_cellt rfl w4.cel.read rfl ⟨w4.ext b3.e (Nat.le_trans e1.len e2.len), .nilS, rfl, IsD.nil _⟩⟩
  have hbq' : Q.big = false := by simpa using hbq
  rw [hbq']
  have nb : ¬ (P.big = true ∨ Q.big = true) := fun h => h.elim hbp hbq
  cases hqe : Q.ts with
  | nil =>
    have e : divA P Q = (zeroP, 2) := by unfold divA; rw [if_neg nb, hqe]
    rw [e]
    have lq0 : lenS false sq = some 0 := by rw [lq, hqe]; rfl
    repeat' (first | refine w_seq ?_ | refine w_seqN ?_ | refine w_seqR ?_ | refine w_blk ?_ | refine w_blkR ?_ | refine w_ret ?_ | refine w_ops ?_ | ((refine i_cond ?_); first | refine w_condT rfl ?_ | refine w_condF rfl ?_) | ((refine i_nil ?_); first | refine w_end2 rfl rfl ?_ | refine w_end3 rfl rfl rfl ?_ | refine w_end4 rfl rfl rfl rfl ?_) | ((refine i_cons ?_); first | (have z := e2; refine k_newC ?_; intro h3 e3 c3; have b3 : Sb h0 h3 h0.length h1.length h2.length false false sp sq := ⟨e1.trans (e2.trans e3), (c1.ext e2).ext e3, c2.ext e3, c3⟩) | (have z := e1; refine k_boxC rfl ?_; intro h2 e2 c2) | (refine k_boxC rfl ?_; intro h1 e1 c1) | refine k_ldC0 rfl b3.c2 ?_ | refine k_ldC0 rfl b3.c3 ?_ | refine k_ldC1 rfl b3.c3 ?_ | refine k_len rfl lq0 ?_ | (refine k_bld rfl rfl ?_) | (have c4 := b3.c4; refine k_stC rfl rfl c4 ?_; intro h4 w4) | refine k_want rfl ?_ | refine k_mv rfl ?_ | refine k_pickF rfl rfl ?_ | refine k_eqlT rfl rfl (by omega) ?_ | refine k_ok rfl rfl ?_))
    exact ⟨.inr rfl, oK_cellt rfl w4.cel.read rfl ⟨w4.ext b3.e (Nat.le_trans e1.len e2.len), .nilS, rfl, IsD.nil _⟩⟩
  | cons b q' =>
  have lqp : 0 < Q.ts.length := by rw [hqe]; simp
  have plen := kp.len
  have qlen := kq.len
  have hbm : b ∈ Q.ts := by rw [hqe]; exact .head _
  by_cases hpe : P.ts = []
  · have e : divA P Q = (zeroP, 0) := by unfold divA; rw [if_neg nb, hqe]; simp only [if_pos hpe]
    rw [e]
    have lp0 : lenS false sp = some 0 := by rw [lp, hpe]; rfl
    repeat' (first | refine w_seq ?_ | refine w_seqN ?_ | refine w_seqR ?_ | refine w_blk ?_ | refine w_blkR ?_ | refine w_ret ?_ | refine w_ops ?_ | ((refine i_cond ?_); first | refine w_condT rfl ?_ | refine w_condF rfl ?_) | ((refine i_nil ?_); first | refine w_end2 rfl rfl ?_ | refine w_end3 rfl rfl rfl ?_ | refine w_end4 rfl rfl rfl rfl ?_) | ((refine i_cons ?_); first | (have z := e2; refine k_newC ?_; intro h3 e3 c3; have b3 : Sb h0 h3 h0.length h1.length h2.length false false sp sq := ⟨e1.trans (e2.trans e3), (c1.ext e2).ext e3, c2.ext e3, c3⟩) | (have z := e1; refine k_boxC rfl ?_; intro h2 e2 c2) | (refine k_boxC rfl ?_; intro h1 e1 c1) | refine k_ldC0 rfl b3.c2 ?_ | refine k_ldC0 rfl b3.c3 ?_ | refine k_ldC1 rfl b3.c3 ?_ | refine k_ldC1 rfl b3.c2 ?_ | refine k_len rfl lp0 ?_ | refine k_len rfl lq ?_ | (refine k_bld rfl rfl ?_) | (have c4 := b3.c4; refine k_stC rfl rfl c4 ?_; intro h4 w4) | refine k_want rfl ?_ | refine k_mv rfl ?_ | refine k_pickF rfl rfl ?_ | refine k_eqlT rfl rfl (by omega) ?_ | refine k_eqlF rfl rfl (by omega) ?_ | refine k_ok rfl rfl ?_))
    exact ⟨.inr rfl, oK_cellt rfl w4.cel.read rfl ⟨w4.ext b3.e (Nat.le_trans e1.len e2.len), .nilS, rfl, IsD.nil _⟩⟩
  have lpp : 0 < P.ts.length := List.length_pos_iff.2 hpe
  by_cases hq1 : q' = []
  · have e : divA P Q = divP P.ts b := by unfold divA; rw [if_neg nb, hqe]; simp only [if_neg hpe, if_pos hq1]
    rw [e]
    have lq1 : lenS false sq = some 1 := by rw [lq, hqe, hq1]; rfl
    have hql1 : Q.ts.length = 1 := by rw [hqe, hq1]; rfl
    obtain ⟨idq, offq, capq, eq, rq⟩ := hq.at (i := 0) (p := tmP b) (by rw [hqe]; rfl)
    rw [tms_len, hql1] at eq
    subst eq
    have k36 := fun H (e : Ext h0 H) => call36 H sp false P.ts b (hp.ext e) (fun t ht => ⟨kp.cf t ht, kp.ex t ht⟩) plen ⟨kq.can.nz b hbm, kq.cf b hbm, kq.ex b hbm⟩
    generalize divP P.ts b = D at *
    repeat' (first | refine w_seq ?_ | refine w_seqN ?_ | refine w_seqR ?_ | refine w_blk ?_ | refine w_blkR ?_ | refine w_ret ?_ | refine w_ops ?_ | refine w_opsD ?_ | refine d_one ?_ | refine d_nil ?_ | ((refine i_cond ?_); first | refine w_condT rfl ?_ | refine w_condF rfl ?_) | ((refine i_nil ?_); first | refine d_same ?_ | refine d_ord ?_ | refine w_end2 rfl rfl ?_ | refine w_end3 rfl rfl rfl ?_ | refine w_end4 rfl rfl rfl rfl ?_) | ((refine i_cons ?_); first | (have z := e2; refine k_newC ?_; intro h3 e3 c3; have b3 : Sb h0 h3 h0.length h1.length h2.length false false sp _ := ⟨e1.trans (e2.trans e3), (c1.ext e2).ext e3, c2.ext e3, c3⟩; have rq3 := readN_ext b3.e rq) | (have z := e1; refine k_boxC rfl ?_; intro h2 e2 c2) | (refine k_boxC rfl ?_; intro h1 e1 c1) | refine k_ldC0 rfl b3.c2 ?_ | refine k_ldC0 rfl b3.c3 ?_ | refine k_ldC1 rfl b3.c3 ?_ | refine k_ldC1 rfl b3.c2 ?_ | refine k_len rfl lp ?_ | refine k_len rfl lq1 ?_ | refine k_ldC rfl b3.c2 ?_ | refine k_idxA (esz := 2) rfl rfl (by omega) ?_ | refine k_ldD rfl rq3 ?_ | (refine k_call rfl (k36 h3 b3.e) ?_; rintro r h4 ⟨e4, s, rfl, is4⟩; have b4 := b3.ext e4) | (have c4 := b4.c4; refine k_stC rfl rfl c4 ?_; intro h5 w5) | refine k_want rfl ?_ | refine k_mv rfl ?_ | refine k_pickF rfl rfl ?_ | refine k_eqlT rfl rfl (by omega) ?_ | refine k_eqlF rfl rfl (by omega) ?_ | refine k_ok rfl rfl ?_))
    exact ⟨.inr rfl, oK_cellt rfl w5.cel.read rfl ⟨w5.ext b4.e (Nat.le_trans e1.len e2.len), s, rfl, is4.wrC w5⟩⟩
  have e : divA P Q = match dvR P.ts Q.ts cM eM with
    | some r => (⟨false, r⟩, 0)
    | none => (zeroP, 10) := by unfold divA; rw [if_neg nb, hqe]; simp only [if_neg hpe, if_neg hq1]
  have lq2 : 2 ≤ Q.ts.length := by
    rw [hqe]
    cases q' with
    | nil => exact absurd rfl hq1
    | cons a b => simp
  have kpl := kp.lo
  have kql := kq.lo
  have k27p := fun H (e : Ext h0 H) => call27 H false sp P.ts (hp.ext e)
  have k27q := fun H (e : Ext h0 H) => call27 H false sq Q.ts (hq.ext e)
  have k28p := fun H (e : Ext h0 H) => call28 H false sp P.ts (hp.ext e) plen
  have k28q := fun H (e : Ext h0 H) => call28 H false sq Q.ts (hq.ext e) qlen
  have hdn : dvN P.ts Q.ts = hi0 P.ts - lo0 P.ts - (hi0 Q.ts - lo0 Q.ts) := rfl
  by_cases hneg : dvN P.ts Q.ts < 0
  · have e2 : dvR P.ts Q.ts cM eM = none := by unfold dvR; rw [if_pos hneg]
    rw [e2] at e
    rw [e]
    rw [hdn] at hneg
    repeat' (first | refine w_seq ?_ | refine w_seqN ?_ | refine w_seqR ?_ | refine w_blk ?_ | refine w_blkN ?_ | refine w_skip ?_ | refine w_ret ?_ | refine w_ops ?_ | refine w_opsD ?_ | refine d_one ?_ | refine d_nil ?_ | ((refine i_cond ?_); first | refine w_condT rfl ?_ | refine w_condF rfl ?_) | ((refine i_nil ?_); first | refine d_same ?_ | refine d_ord ?_ | refine d_ext (by assumption) ?_ | refine w_end2 rfl rfl ?_ | refine w_end3 rfl rfl rfl ?_ | refine w_end4 rfl rfl rfl rfl ?_ | refine w_end5 rfl rfl rfl rfl rfl ?_) | ((refine i_cons ?_); first | (have z := e2; refine k_newC ?_; intro h3 e3 c3; have b3 : Sb h0 h3 h0.length h1.length h2.length false false sp sq := ⟨e1.trans (e2.trans e3), (c1.ext e2).ext e3, c2.ext e3, c3⟩) | (have z := e1; refine k_boxC rfl ?_; intro h2 e2 c2) | (refine k_boxC rfl ?_; intro h1 e1 c1) | refine k_ldC0 rfl b3.c2 ?_ | refine k_ldC0 rfl b3.c3 ?_ | refine k_ldC1 rfl b3.c3 ?_ | refine k_ldC1 rfl b3.c2 ?_ | refine k_len rfl lp ?_ | refine k_len rfl lq ?_ | refine k_ldC rfl b3.c2 ?_ | (refine k_call rfl (k28p h3 b3.e) ?_; rintro r h5 ⟨e5, rfl⟩; have b5 := b3.ext e5) | refine k_ldC rfl b5.c2 ?_ | (refine k_call rfl (k27p h5 b5.e) ?_; rintro r h6 ⟨e6, rfl⟩; have b6 := b5.ext e6) | refine k_ldC rfl b6.c3 ?_ | (refine k_call rfl (k28q h6 b6.e) ?_; rintro r h7 ⟨e7, rfl⟩; have b7 := b6.ext e7) | refine k_ldC rfl b7.c3 ?_ | (refine k_call rfl (k27q h7 b7.e) ?_; rintro r h8 ⟨e8, rfl⟩; have b8 := b7.ext e8) | (refine k_bld rfl rfl ?_) | (have c4 := b8.c4; refine k_stC rfl rfl c4 ?_; intro h9 w9) | refine k_want rfl ?_ | refine k_mv rfl ?_ | refine k_pickF rfl rfl ?_ | refine k_sub rfl rfl (by omega) ?_ | refine k_lssT rfl rfl (by omega) ?_ | refine k_eqlF rfl rfl (by omega) ?_ | refine k_ok rfl rfl ?_))
    exact ⟨.inr rfl, oK_cellt rfl w9.cel.read rfl ⟨w9.ext b8.e (Nat.le_trans e1.len e2.len), .nilS, rfl, IsD.nil _⟩⟩
  obtain ⟨Ln, hL⟩ : ∃ n : Nat, (n : Int) = dvN P.ts Q.ts := ⟨(dvN P.ts Q.ts).toNat, by omega⟩
  obtain ⟨N, hN⟩ : ∃ n : Nat, (n : Int) = hi0 P.ts - lo0 P.ts + 1 := ⟨(hi0 P.ts - lo0 P.ts + 1).toNat, by omega⟩
  have hL2 := hL
  rw [hdn] at hL
  repeat' (first | refine w_seq ?_ | refine w_seqN ?_ | refine w_blk ?_ | refine w_blkN ?_ | refine w_skip ?_ | refine w_ops ?_ | refine w_opsD ?_ | refine d_one ?_ | refine d_nil ?_ | ((refine i_cond ?_); refine w_condF rfl ?_) | ((refine i_nil ?_); first | refine d_same ?_ | refine d_ord ?_ | refine d_ext (by assumption) ?_ | refine w_end3 rfl rfl rfl ?_ | refine w_end4 rfl rfl rfl rfl ?_ | refine w_end5 rfl rfl rfl rfl rfl ?_ | refine w_end8 rfl rfl rfl rfl rfl rfl rfl rfl ?_) | ((refine i_cons ?_); first | (have z := e2; refine k_newC ?_; intro h3 e3 c3; have b3 : Sb h0 h3 h0.length h1.length h2.length false false sp sq := ⟨e1.trans (e2.trans e3), (c1.ext e2).ext e3, c2.ext e3, c3⟩; have l4 := Nat.le_trans e1.len e2.len) | (have z := e1; refine k_boxC rfl ?_; intro h2 e2 c2) | (refine k_boxC rfl ?_; intro h1 e1 c1) | refine k_ldC0 rfl b3.c2 ?_ | refine k_ldC0 rfl b3.c3 ?_ | refine k_ldC1 rfl b3.c3 ?_ | refine k_ldC1 rfl b3.c2 ?_ | refine k_len rfl lp ?_ | refine k_len rfl lq ?_ | refine k_ldC rfl b3.c2 ?_ | (refine k_call rfl (k28p h3 b3.e) ?_; rintro r h5 ⟨e5, rfl⟩; have b5 := b3.ext e5) | refine k_ldC rfl b5.c2 ?_ | (refine k_call rfl (k27p h5 b5.e) ?_; rintro r h6 ⟨e6, rfl⟩; have b6 := b5.ext e6) | refine k_ldC rfl b6.c3 ?_ | (refine k_call rfl (k28q h6 b6.e) ?_; rintro r h7 ⟨e7, rfl⟩; have b7 := b6.ext e7) | refine k_ldC rfl b7.c3 ?_ | (refine k_call rfl (k27q h7 b7.e) ?_; rintro r h8 ⟨e8, rfl⟩; have b8 := b7.ext e8) | (have z := e8; refine k_sub rfl rfl (by omega) ?_; rw [← hL]) | refine k_ldC rfl b8.c2 ?_ | (refine k_call rfl (k28p h8 b8.e) ?_; rintro r h9 ⟨e9, rfl⟩; have b9 := b8.ext e9) | refine k_ldC rfl b9.c2 ?_ | (refine k_call rfl (k27p h9 b9.e) ?_; rintro r hA ⟨eA, rfl⟩; have bA := b9.ext eA) | (have z := eA; refine k_add rfl rfl (by omega) ?_; rw [← hN]) | (refine k_mkD bA.e rfl rfl (by simp only [bigN]; omega) ?_; intro S hB oB eB xB lB; have bB := bA.ext eB) | refine k_ldC1 rfl bB.c2 ?_ | refine k_want rfl ?_ | refine k_mv rfl ?_ | refine k_pickF rfl rfl ?_ | refine k_sub rfl rfl (by omega) ?_ | refine k_lssF rfl rfl (by omega) ?_ | refine k_eqlF rfl rfl (by omega) ?_ | refine k_ok rfl rfl ?_))
  have sB : Sa h0 hB h0.length h1.length h2.length sp sq S (smL (fun e => cf (P.ts.take 0) e) (lo0 P.ts) N) := by
    refine ⟨bB.e, bB.c2, bB.c3, bB.c4, ?_⟩
    have : (smL (fun e => cf (P.ts.take 0) e) (lo0 P.ts) N).map wdP = List.replicate (N : Int).toNat (SV.int IntKind.u64 0, SV.int IntKind.u64 0) := by
      refine List.ext_getElem (by simp [smL]) fun k h1 h2 => ?_
      simp only [smL, List.take_zero, List.map_map, List.getElem_map, List.getElem_replicate]
      rfl
    rw [this]
    exact oB.weaken bA.e.len
  refine w_loop (I13a h0 h0.length h1.length h2.length sp sq S P.ts N Ln) (cK [2, 3, 4, 6, 7, 75, 76, 77] P.ts.length 77) (R13a h0 h0.length h1.length h2.length sp sq S P.ts N Ln) ⟨0, Nat.zero_le _, sB, rfl⟩ (round13a h0 h0.length h1.length h2.length sp sq S P.ts N Ln hp kp.can (fun t ht => ⟨kp.cf t ht, kp.ex t ht⟩) plen (fun t ht => by have := hi0_ge kp.can t ht; omega) (by simp only [eM]; omega)) ?_
  rintro ex E' hC ⟨rfl, _, _, _, _, sC, rfl⟩
  repeat' (first | refine w_seq ?_ | refine w_seqN ?_ | refine w_blk ?_ | refine w_blkX ?_ | refine w_ops ?_ | ((refine i_nil ?_); first | refine w_end6 rfl rfl rfl rfl rfl rfl ?_ | refine w_end8 rfl rfl rfl rfl rfl rfl rfl rfl ?_) | ((refine i_cons ?_); first | (refine k_newC ?_; intro hD eD cD; have sD := sC.ext eD) | refine k_mv rfl ?_ | refine k_add rfl rfl (by omega) ?_))
  have m2 := sC.c2.lt
  have m3 := sC.c3.lt
  have m4 := sC.c4.lt
  have mE := sC.e.len
  have stD : St13 h0 hD h0.length h1.length h2.length hC.length sp sq S .nilS (smL (fun e => cf P.ts e - mc [] Q.ts e) (lo0 P.ts) N) [] := by
    refine ⟨?_, cD, .inl ⟨rfl, rfl⟩, fun j => .inl (fun o n c e => by cases e)⟩
    have : smL (fun e => cf P.ts e - mc [] Q.ts e) (lo0 P.ts) N = smL (fun e => cf P.ts e) (lo0 P.ts) N := smL_congr fun e => by simp only [mc_nil]; omega
    rw [this]; exact sD
  refine w_loop (I13b h0 h0.length h1.length h2.length hC.length sp sq S P.ts Q.ts N Ln) (cK [2, 3, 4, 6, 7, 10, 93, 94] (Ln + 1) 94) (R13b h0 h0.length h1.length h2.length hC.length sp sq S P.ts Q.ts N Ln) ⟨0, [], .nilS, Nat.zero_le _, rfl, stD, rfl⟩ (round13b h0 h0.length h1.length h2.length hC.length sp sq S P Q N Ln hp hq kp kq b q' hqe hN hL2 l4 ⟨mE, by omega, by omega, by omega⟩) ?_
  rintro ex E' hE (⟨rfl, r, s, _, _, _, hdv, st, rfl⟩ | ⟨rfl, hdv, xE, c4E, rfl⟩)
  · have hq0 : Q.ts ≠ [] := by rw [hqe]; simp
    generalize hvs : smL (fun e => cf P.ts e - mc r Q.ts e) (lo0 P.ts) N = vs at *
    have hvl : vs.length = N := by rw [← hvs, smL_len]
    have hsl : ∀ s', IsD hE s' ((vs.map wdP).drop ((Ln : Int) + 1).toNat) → IsD hE s' ((vs.drop (Ln + 1)).map wdP) ∧ lenS false s' = some (((vs.drop (Ln + 1)).length : Nat) : Int) := fun s' h => by
      rw [show ((Ln : Int) + 1).toNat = Ln + 1 by omega, ← List.map_drop] at h
      exact ⟨h, by have := h.len; rwa [List.length_map] at this⟩
    repeat' (first | refine w_seq ?_ | refine w_seqN ?_ | refine w_blk ?_ | refine w_blkX ?_ | refine w_ops ?_ | ((refine i_nil ?_); refine w_end5 rfl rfl rfl rfl rfl ?_) | ((refine i_cons ?_); first | (refine k_slD st.a.o rfl rfl (by rw [List.length_map]; omega) ?_; intro s' is'; obtain ⟨is2, ls2⟩ := hsl s' is') | refine k_len rfl ls2 ?_ | refine k_mv rfl ?_ | refine k_add rfl rfl (by omega) ?_))
    refine w_loop (I13d h0 hE h2.length hC.length s' (vs.drop (Ln + 1))) (cK [4, 10, 170, 171, 172] (vs.drop (Ln + 1)).length 172) (R13d h0 hE h2.length hC.length (vs.drop (Ln + 1))) ⟨0, Nat.zero_le _, fun k hk => absurd hk (Nat.not_lt_zero _), Ext.refl _, rfl⟩ (round13d h0 hE h2.length hC.length s' (vs.drop (Ln + 1)) is2 st.a.e st.a.c4 l4 (fun v hv => by
      have := List.mem_of_mem_drop hv
      rw [← hvs] at this
      obtain ⟨k, hk, rfl⟩ := List.mem_map.1 this
      exact rk_small kp kq hq0 hdv (by omega) _) (by rw [List.length_drop]; omega)) ?_
    rintro ex E' hF (⟨rfl, _, _, _, _, hz, xF, rfl⟩ | ⟨rfl, hnz, xF, c4F, rfl⟩)
    · have cXF := st.cX.ext xF
      have c4F := st.a.c4.ext xF
      repeat' (first | refine w_seq ?_ | refine w_seqN ?_ | refine w_blkX ?_ | refine w_ret ?_ | refine w_ops ?_ | ((refine i_nil ?_); refine w_end2 rfl rfl ?_) | ((refine i_cons ?_); first | refine k_ldC rfl cXF ?_ | (refine k_stC rfl rfl c4F ?_; intro hG wG) | refine k_mv rfl ?_))
      rw [← hvs, smL_rest] at hz
      rw [e, dvR_some hN hL2 hdv hz]
      exact ⟨.inr rfl, oK_cellt rfl wG.cel.read rfl ⟨wG.ext (st.a.e.trans xF) l4, s, rfl, ((st.os.ext xF).wrC wG).is⟩⟩
    · repeat' (first | refine w_seqR ?_ | refine w_blkR ?_)
      rw [← hvs, smL_rest] at hnz
      rw [e, dvR_none2 hN hL2 hdv hnz]
      exact ⟨.inr rfl, oK_cellt rfl c4F.read rfl ⟨xF, .nilS, rfl, IsD.nil _⟩⟩
  · repeat' (first | refine w_seqR ?_ | refine w_blkR ?_)
    rw [e, dvR_none1 hL2 hdv]
    exact ⟨.inr rfl, oK_cellt rfl c4E.read rfl ⟨xE, .nilS, rfl, IsD.nil _⟩⟩
end Go.Proofs.YtlnjddjobbhcaaaDoor
