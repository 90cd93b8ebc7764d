/- The reference's wide numbers: norm 95, plus 94, small 96. -/
import Derived.Test.YtofknpknogfijaaGreatDoorO1
namespace Go.Proofs.YtofknpknogfijaaGreatDoor
open Go.Ab
set_option linter.unusedVariables false
set_option linter.unusedSimpArgs false
set_option maxRecDepth 20000
set_option maxHeartbeats 4000000
attribute [local irreducible] wOps wA wSeq wBlk wRound wRoundI wOpsD
set_option linter.unusedSectionVars false
variable [HB]

abbrev WV (a b : Int) : AV := .agg [.int .i64 a, .int .i64 b]
def I112 (h0 : Heap) (q1 q2 : Nat) (H L : Int) (k : Nat) (E : Env) (h : Heap) : Prop := ∃ a b : Int, a * 1125899906842624 + b = H * 1125899906842624 + L ∧ a ≤ H ∧ H ≤ a + 1000 - k ∧ b ≤ 1152921504606846976 ∧ -1125899906842624 * k ≤ b ∧ Ext h0 h ∧ Cel h q1 (.int .i64 a) (.int .i64 b) ∧ Cel h q2 (.int .i64 0) (.int .i64 0) ∧
  E.keep [1, 2] = [(1, some (.sc (.ptr q1 0))), (2, some (.sc (.ptr q2 0)))]
def R112 (h0 : Heap) (q1 q2 : Nat) (H L : Int) (ex : Ex) (E : Env) (h : Heap) : Prop := ex = .ex 0 ∧ ∃ a b : Int, ∃ d, a * 1125899906842624 + b = H * 1125899906842624 + L ∧ a ≤ H ∧ H ≤ a + 1000 ∧ 0 ≤ b ∧ b ≤ 1152921504606846976 ∧ Ext h0 h ∧ Cel h q1 (.int .i64 a) (.int .i64 b) ∧ Cel h q2 (.int .i64 0) (.int .i64 0) ∧
  E = [(1, some (.sc (.ptr q1 0))), (2, some (.sc (.ptr q2 0))), (5, d)]
theorem round112 (h0 : Heap) (q1 q2 : Nat) (l1 : h0.length ≤ q1) (l2 : q1 < q2) (H L : Int) (hH : -1152921504606846976 ≤ H ∧ H ≤ 1152921504606846976) (k : Nat) (E : Env) (h : Heap) (hI : I112 h0 q1 q2 H L k E h) :
    wA FT HKt b112L0 (E.keep [1, 2]) h (wRoundI (I112 h0 q1 q2 H L) k (R112 h0 q1 q2 H L)) := by
  obtain ⟨a, b, he, ha, ha2, hb, hb2, e, c1, c2, hE⟩ := hI
  rw [hE]
  by_cases hlt : b < 0
  · repeat' (first | refine w_seq ?_ | refine w_seqN ?_ | refine w_blk ?_ | refine w_blkN ?_ | refine w_skip ?_ | refine w_ops ?_ | ((refine i_cond ?_); refine w_condT rfl ?_) | ((refine i_nil ?_); first | refine w_end2 rfl rfl ?_ | refine w_end3 rfl rfl rfl ?_) | ((refine i_cons ?_); first | refine k_fldA rfl ?_ | refine k_ldC1 rfl c1 ?_ | refine k_ldC0 rfl c1 ?_ | (refine k_stC1 rfl rfl c1 ?_; intro h1 w1; have c1' := w1.cel; have c2' := w1.keep c2 (by omega)) | (refine k_stC0 rfl rfl c1' ?_; intro h2 w2) | refine k_add rfl rfl (by omega) ?_ | refine k_sub rfl rfl (by omega) ?_ | refine k_lssT rfl rfl (by omega) ?_))
    exact w_roundIN (j := k - 1) (by omega) ⟨a - 1, b + 1125899906842624, by omega, by omega, by omega, by omega, by omega, w2.ext (w1.ext e l1) l1, w2.cel, w2.keep c2' (by omega), rfl⟩
  · repeat' (first | refine w_seq ?_ | refine w_seqN ?_ | refine w_seqX ?_ | refine w_exit ?_ | refine w_ops ?_ | ((refine i_cond ?_); refine w_condF rfl ?_) | ((refine i_nil ?_); refine w_end3 rfl rfl rfl ?_) | ((refine i_cons ?_); first | refine k_fldA rfl ?_ | refine k_ldC1 rfl c1 ?_ | refine k_lssF rfl rfl (by omega) ?_))
    exact w_roundIX ⟨rfl, a, b, _, he, ha, by omega, by omega, hb, e, c1, c2, rfl⟩
/-- norm. -/
theorem call112 (h0 : Heap) (H L : Int) (hH : -1125899906842624000 ≤ H ∧ H ≤ 1125899906842624000) (hL : -1125899906842624000 ≤ L ∧ L ≤ 1125899906842624000) :
    ∃ r h', Cal FT HKt 112 [WV H L] h0 r h' ∧ Ext h0 h' ∧ r = WV (H + L / 1125899906842624) (L % 1125899906842624) := by
  refine Cal.of (F := a112) rfl rfl rfl ?_
  repeat' (first | refine w_seq ?_ | refine w_seqN ?_ | refine w_blk ?_ | refine w_ops ?_ | ((refine i_nil ?_); refine w_end2 rfl rfl ?_) | ((refine i_cons ?_); first | (have z := e1; refine k_newC ?_; intro h2 e2 c2; have d1 := c1.ext e2; have m1 := c1.lt) | (refine k_boxC rfl ?_; intro h1 e1 c1)))
  refine w_loopI (I112 h0 h0.length h1.length H L) 1000 (R112 h0 h0.length h1.length H L) ⟨H, L, rfl, by omega, by omega, by omega, by omega, e1.trans e2, d1, c2, rfl⟩ (round112 h0 h0.length h1.length (Nat.le_refl _) m1 H L (by omega)) ?_
  rintro ex E' h3 ⟨rfl, a, b, d, he, ha, ha2, hb, hb2, e3, c3, d3, rfl⟩
  repeat' (first | refine w_seq ?_ | refine w_seqN ?_ | refine w_blkX ?_ | refine w_ret ?_ | refine w_ops ?_ | ((refine i_nil ?_); first | refine w_end1 rfl ?_ | refine w_end2 rfl rfl ?_) | ((refine i_cons ?_); first | refine k_fldA rfl ?_ | refine k_ldC1 rfl c3 ?_ | refine k_ldC0 rfl c3 ?_ | refine k_ldC rfl c5 ?_ | (refine k_stC0 rfl rfl c3 ?_; intro h4 w4; have c4 := w4.cel; have d4 := w4.keep d3 (by omega)) | (refine k_stC1 rfl rfl c4 ?_; intro h5 w5; have c5 := w5.cel; have d5 := w5.keep d4 (by omega)) | (refine k_stC rfl rfl d5 ?_; intro h6 w6) | refine k_add rfl rfl (by omega) ?_ | refine k_quo rfl rfl (by omega) ?_ | refine k_rem rfl rfl (by omega) ?_))
  refine ⟨.inr rfl, oK_cell rfl w6.cel.read ⟨w6.ext (w5.ext (w4.ext e3 (Nat.le_refl _)) (Nat.le_refl _)) (by omega), ?_⟩⟩
  rw [show H + L / 1125899906842624 = a + b / 1125899906842624 by omega, show L % 1125899906842624 = b % 1125899906842624 by omega]
/-- plus. -/
theorem call111 (h0 : Heap) (a b c d : Int) (ha : a.natAbs ≤ 500000000000000000) (hc : c.natAbs ≤ 500000000000000000) (hb : 0 ≤ b ∧ b < 1125899906842624) (hd : 0 ≤ d ∧ d < 1125899906842624) :
    ∃ r h', Cal FT HKt 111 [WV a b, WV c d] h0 r h' ∧ Ext h0 h' ∧ r = WV (a + c + (b + d) / 1125899906842624) ((b + d) % 1125899906842624) := by
  refine Cal.of (F := a111) rfl rfl rfl ?_
  have k95 := fun H => call112 H (a + c) (b + d) (by omega) (by omega)
  repeat' (first | refine w_seq ?_ | refine w_seqN ?_ | refine w_ret ?_ | refine w_ops ?_ | ((refine i_nil ?_); first | refine w_end1 rfl ?_ | refine w_end3 rfl rfl rfl ?_) | ((refine i_cons ?_); first | (have z := e2; refine k_newC ?_; intro h3 e3 c3; have d1 := (c1.ext e2).ext e3; have d2 := c2.ext e3) | (have z := e1; refine k_boxC rfl ?_; intro h2 e2 c2) | (refine k_boxC rfl ?_; intro h1 e1 c1) | refine k_fldA rfl ?_ | refine k_ldC0 rfl d1 ?_ | refine k_ldC0 rfl d2 ?_ | refine k_ldC1 rfl d1 ?_ | refine k_ldC1 rfl d2 ?_ | (refine k_bld rfl rfl ?_) | (refine k_call rfl (k95 h3) ?_; rintro r h4 ⟨e4, rfl⟩; have d3 := c3.ext e4) | (refine k_stC rfl rfl d3 ?_; intro h5 w5) | refine k_add rfl rfl (by omega) ?_))
  exact ⟨.inr rfl, oK_cell rfl w5.cel.read ⟨w5.ext (e1.trans (e2.trans (e3.trans e4))) (Nat.le_trans e1.len e2.len), rfl⟩⟩
theorem nab {x : Int} : x.natAbs ≤ cM ↔ -1125899906842624 ≤ x ∧ x ≤ 1125899906842624 := by simp only [cM]; omega
/-- small. -/
theorem call113 (h0 : Heap) (a b : Int) (hb : 0 ≤ b ∧ b < 1125899906842624) :
    ∃ r h', Cal FT HKt 113 [WV a b] h0 r h' ∧ Ext h0 h' ∧ ∃ n : Int, ∃ ok : Bool, r = .tup [.sc (.int .i64 n), .sc (.bool ok)] ∧ (ok = true ↔ (a * 1125899906842624 + b).natAbs ≤ cM) ∧ (ok = true → n = a * 1125899906842624 + b) := by
  refine Cal.of (F := a113) rfl rfl rfl ?_
  by_cases h1 : a < -2
  · repeat' (first | refine w_seq ?_ | refine w_seqN ?_ | refine w_seqR ?_ | refine w_ret ?_ | refine w_ops ?_ | ((refine i_cond ?_); refine w_condT rfl ?_) | ((refine i_nil ?_); first | refine w_end1 rfl ?_ | refine w_end2 rfl rfl ?_) | ((refine i_cons ?_); first | (refine k_boxC rfl ?_; intro h1 e1 c1) | refine k_fldA rfl ?_ | refine k_ldC0 rfl c1 ?_ | refine k_skip rfl ?_ | refine k_mv rfl ?_ | refine k_pickT rfl rfl ?_ | refine k_lssT rfl rfl (by omega) ?_))
    exact ⟨.inr rfl, e1, 0, false, rfl, ⟨(nomatch ·), fun h => by have := nab.1 h; omega⟩, by simp⟩
  by_cases h2 : 2 < a
  · repeat' (first | refine w_seq ?_ | refine w_seqN ?_ | refine w_seqR ?_ | refine w_ret ?_ | refine w_ops ?_ | ((refine i_cond ?_); refine w_condT rfl ?_) | ((refine i_nil ?_); first | refine w_end1 rfl ?_ | refine w_end2 rfl rfl ?_) | ((refine i_cons ?_); first | (refine k_boxC rfl ?_; intro h1 e1 c1) | refine k_fldA rfl ?_ | refine k_ldC0 rfl c1 ?_ | refine k_want rfl ?_ | refine k_mv rfl ?_ | refine k_pickF rfl rfl ?_ | refine k_lssF rfl rfl (by omega) ?_ | refine k_gtrT rfl rfl (by omega) ?_))
    exact ⟨.inr rfl, e1, 0, false, rfl, ⟨(nomatch ·), fun h => by have := nab.1 h; omega⟩, by simp⟩
  by_cases h3 : -1125899906842624 ≤ a * 1125899906842624 + b
  · by_cases h4 : a * 1125899906842624 + b ≤ 1125899906842624
    · repeat' (first | refine w_seq ?_ | refine w_seqN ?_ | refine w_skip ?_ | refine w_ret ?_ | refine w_ops ?_ | ((refine i_cond ?_); refine w_condF rfl ?_) | ((refine i_nil ?_); first | refine w_end1 rfl ?_ | refine w_end2 rfl rfl ?_) | ((refine i_cons ?_); first | (refine k_boxC rfl ?_; intro h1 e1 c1) | refine k_fldA rfl ?_ | refine k_ldC0 rfl c1 ?_ | refine k_ldC1 rfl c1 ?_ | refine k_want rfl ?_ | refine k_mv rfl ?_ | refine k_pickT rfl rfl ?_ | refine k_pickF rfl rfl ?_ | refine k_add rfl rfl (by omega) ?_ | refine k_mul rfl rfl (by omega) ?_ | refine k_lssF rfl rfl (by omega) ?_ | refine k_leqT rfl rfl (by omega) ?_ | refine k_gtrF rfl rfl (by omega) ?_ | refine k_geqT rfl rfl (by omega) ?_))
      exact ⟨.inr rfl, e1, _, true, rfl, ⟨fun _ => nab.2 (by omega), fun _ => rfl⟩, fun _ => rfl⟩
    · repeat' (first | refine w_seq ?_ | refine w_seqN ?_ | refine w_skip ?_ | refine w_ret ?_ | refine w_ops ?_ | ((refine i_cond ?_); refine w_condF rfl ?_) | ((refine i_nil ?_); first | refine w_end1 rfl ?_ | refine w_end2 rfl rfl ?_) | ((refine i_cons ?_); first | (refine k_boxC rfl ?_; intro h1 e1 c1) | refine k_fldA rfl ?_ | refine k_ldC0 rfl c1 ?_ | refine k_ldC1 rfl c1 ?_ | refine k_want rfl ?_ | refine k_mv rfl ?_ | refine k_pickT rfl rfl ?_ | refine k_pickF rfl rfl ?_ | refine k_add rfl rfl (by omega) ?_ | refine k_mul rfl rfl (by omega) ?_ | refine k_lssF rfl rfl (by omega) ?_ | refine k_leqF rfl rfl (by omega) ?_ | refine k_gtrF rfl rfl (by omega) ?_ | refine k_geqT rfl rfl (by omega) ?_))
      exact ⟨.inr rfl, e1, _, false, rfl, ⟨(nomatch ·), fun h => by have := nab.1 h; omega⟩, by simp⟩
  · repeat' (first | refine w_seq ?_ | refine w_seqN ?_ | refine w_skip ?_ | refine w_ret ?_ | refine w_ops ?_ | ((refine i_cond ?_); refine w_condF rfl ?_) | ((refine i_nil ?_); first | refine w_end1 rfl ?_ | refine w_end2 rfl rfl ?_) | ((refine i_cons ?_); first | (refine k_boxC rfl ?_; intro h1 e1 c1) | refine k_fldA rfl ?_ | refine k_ldC0 rfl c1 ?_ | refine k_ldC1 rfl c1 ?_ | refine k_skip rfl ?_ | refine k_want rfl ?_ | refine k_mv rfl ?_ | refine k_pickF rfl rfl ?_ | refine k_add rfl rfl (by omega) ?_ | refine k_mul rfl rfl (by omega) ?_ | refine k_lssF rfl rfl (by omega) ?_ | refine k_gtrF rfl rfl (by omega) ?_ | refine k_geqF rfl rfl (by omega) ?_))
    exact ⟨.inr rfl, e1, _, false, rfl, ⟨(nomatch ·), fun h => by have := nab.1 h; omega⟩, by simp⟩
end Go.Proofs.YtofknpknogfijaaGreatDoor
