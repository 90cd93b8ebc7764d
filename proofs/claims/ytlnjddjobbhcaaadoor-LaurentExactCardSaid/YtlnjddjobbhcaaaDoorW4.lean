/- Integers of 128 bits: products, tests, quotients: contracts. -/
import Derived.Test.YtlnjddjobbhcaaaDoorW3
namespace Go.Proofs.YtlnjddjobbhcaaaDoor
open Go.Ab
set_option linter.unusedVariables false
set_option linter.unusedSimpArgs false
set_option maxRecDepth 20000
set_option maxHeartbeats 4000000
attribute [local irreducible] wOps wA wSeq wBlk wRound wRoundI wOpsD wOpsS

theorem wd_of {v : Int} (h0 : 0 ≤ v) (h1 : v < 340282366920938463463374607431768211456) : wd v = [.int .u64 (v / 18446744073709551616), .int .u64 (v % 18446744073709551616)] := by
  unfold wd
  rw [Int.emod_eq_of_lt (a := v / 18446744073709551616) (by omega) (by omega)]
theorem call37 (h0 : Heap) (v : Int) (hv : -9223372036854775808 ≤ v ∧ v ≤ 9223372036854775807) : ∃ r h', Cal FT HKt 37 [.sc (.int .i64 v)] h0 r h' ∧ Ext h0 h' ∧ r = .agg (wd v) := by
  refine Cal.of (F := a37) rfl rfl rfl ?_
  have e : v.fdiv (2 ^ (min (63 : Int).toNat IntKind.i64.bits)) = v / 9223372036854775808 := by
    rw [show min (63 : Int).toNat IntKind.i64.bits = 63 by simp [IntKind.bits], Int.fdiv_eq_ediv_of_nonneg _ (by omega)]
    rfl
  repeat' (first | refine w_seq ?_ | refine w_seqN ?_ | refine w_ret ?_ | refine w_ops ?_ | ((refine i_nil ?_); first | refine w_end1 rfl ?_ | refine w_end2 rfl rfl ?_) | ((refine i_cons ?_); first | (refine k_newC ?_; intro h2 e2 c2) | (refine k_shr rfl rfl (by omega) e ?_) | (refine k_cvU rfl ?_) | (refine k_bld rfl rfl ?_) | (refine k_stC rfl rfl c2 ?_; intro h3 w3) | refine k_mv rfl ?_))
  refine ⟨.inr rfl, oK_cell rfl w3.cel.read ⟨w3.ext e2 (Nat.le_refl _), ?_⟩⟩
  unfold wd
  rw [show v / 9223372036854775808 % 18446744073709551616 = v / 18446744073709551616 % 18446744073709551616 by omega]
theorem call38 (h0 : Heap) (v : Int) (hv : -170141183460469231731687303715884105728 < v ∧ v < 170141183460469231731687303715884105728) : ∃ r h', Cal FT HKt 38 [.agg (wd v)] h0 r h' ∧ Ext h0 h' ∧ r = .sc (.bool (decide (v = 0))) := by
  refine Cal.of (F := a38) rfl rfl rfl ?_
  by_cases h : v = 0
  · subst h
    rw [decide_eq_true rfl]
    unfold wd
    repeat' (first | refine w_seq ?_ | refine w_seqN ?_ | refine w_ret ?_ | refine w_ops ?_ | ((refine i_nil ?_); refine w_end1 rfl ?_) | ((refine i_cons ?_); first | (refine k_boxC rfl ?_; intro h1 e1 c1) | refine k_ldC0 rfl c1 ?_ | refine k_ldC1 rfl c1 ?_ | refine k_want rfl ?_ | refine k_mv rfl ?_ | refine k_pickT rfl rfl ?_ | refine k_eqlT rfl rfl (by omega) ?_ | refine k_ok rfl rfl ?_))
    exact ⟨.inr rfl, e1, rfl⟩
  · rw [decide_eq_false h]
    by_cases h2 : v / 18446744073709551616 % 18446744073709551616 = 0
    · have h3 : v % 18446744073709551616 ≠ 0 := by omega
      unfold wd
      repeat' (first | refine w_seq ?_ | refine w_seqN ?_ | refine w_ret ?_ | refine w_ops ?_ | ((refine i_nil ?_); refine w_end1 rfl ?_) | ((refine i_cons ?_); first | (refine k_boxC rfl ?_; intro h1 e1 c1) | refine k_ldC0 rfl c1 ?_ | refine k_ldC1 rfl c1 ?_ | refine k_want rfl ?_ | refine k_mv rfl ?_ | refine k_pickT rfl rfl ?_ | refine k_eqlT rfl rfl (by omega) ?_ | refine k_eqlF rfl rfl (by omega) ?_ | refine k_ok rfl rfl ?_))
      exact ⟨.inr rfl, e1, rfl⟩
    · unfold wd
      repeat' (first | refine w_seq ?_ | refine w_seqN ?_ | refine w_ret ?_ | refine w_ops ?_ | ((refine i_nil ?_); refine w_end1 rfl ?_) | ((refine i_cons ?_); first | (refine k_boxC rfl ?_; intro h1 e1 c1) | refine k_ldC0 rfl c1 ?_ | refine k_skip rfl ?_ | refine k_mv rfl ?_ | refine k_pickF rfl rfl ?_ | refine k_eqlF rfl rfl (by omega) ?_ | refine k_ok rfl rfl ?_))
      exact ⟨.inr rfl, e1, rfl⟩
theorem call69 (h0 : Heap) (v : Int) (hv : -170141183460469231731687303715884105728 < v ∧ v < 170141183460469231731687303715884105728) : ∃ r h', Cal FT HKt 69 [.agg (wd v)] h0 r h' ∧ Ext h0 h' ∧ r = .tup [.agg (wd (v.natAbs : Int)), .sc (.bool (decide (v < 0)))] := by
  refine Cal.of (F := a69) rfl rfl rfl ?_
  have k74 := fun H => call74 H v
  by_cases h : v < 0
  · rw [decide_eq_true h]
    have e : v / 18446744073709551616 % 18446744073709551616 / (2 ^ 63 : Nat) = 1 := by omega
    have ea : (v.natAbs : Int) = -v := by omega
    rw [ea]
    generalize hw : wd (-v) = W at *
    unfold wd at k74 ⊢
    obtain ⟨w1, w2, rfl⟩ : ∃ w1 w2, W = [w1, w2] := ⟨_, _, hw.symm⟩
    repeat' (first | refine w_seq ?_ | refine w_seqN ?_ | refine w_seqR ?_ | refine w_ret ?_ | refine w_ops ?_ | ((refine i_cond ?_); refine w_condT rfl ?_) | ((refine i_nil ?_); first | refine w_end2 rfl rfl ?_ | refine w_end3 rfl rfl rfl ?_) | ((refine i_cons ?_); first | (have z := e1; refine k_newC ?_; intro h2 e2 c2; have d2 := c1.ext e2) | (refine k_boxC rfl ?_; intro h1 e1 c1) | refine k_ldC0 rfl d2 ?_ | refine k_ldC rfl d2 ?_ | (refine k_shrU (q := 63) rfl rfl rfl (by omega) ?_; rw [e]) | (refine k_call rfl (k74 _) ?_; rintro r h3 ⟨e3, rfl⟩; have c3 := c2.ext e3) | (refine k_stC rfl rfl c3 ?_; intro h4 w4) | refine k_mv rfl ?_ | refine k_eqlT rfl rfl (by omega) ?_ | refine k_ok rfl rfl ?_))
    exact ⟨.inr rfl, oK_cellt rfl w4.cel.read rfl ⟨w4.ext (e1.trans (e2.trans e3)) e1.len, rfl⟩⟩
  · rw [decide_eq_false h]
    have e : v / 18446744073709551616 % 18446744073709551616 / (2 ^ 63 : Nat) = 0 := by omega
    have ea : (v.natAbs : Int) = v := by omega
    rw [ea]
    unfold wd
    repeat' (first | refine w_seq ?_ | refine w_seqN ?_ | refine w_skip ?_ | refine w_ret ?_ | refine w_ops ?_ | ((refine i_cond ?_); refine w_condF rfl ?_) | ((refine i_nil ?_); first | refine w_end2 rfl rfl ?_ | refine w_end3 rfl rfl rfl ?_) | ((refine i_cons ?_); first | (have z := e1; refine k_newC ?_; intro h2 e2 c2; have d2 := c1.ext e2) | (refine k_boxC rfl ?_; intro h1 e1 c1) | refine k_ldC0 rfl d2 ?_ | refine k_ldC rfl d2 ?_ | (refine k_shrU (q := 63) rfl rfl rfl (by omega) ?_; rw [e]) | (refine k_stC rfl rfl c2 ?_; intro h4 w4) | refine k_mv rfl ?_ | refine k_eqlF rfl rfl (by omega) ?_ | refine k_ok rfl rfl ?_))
    exact ⟨.inr rfl, oK_cellt rfl w4.cel.read rfl ⟨w4.ext (e1.trans e2) e1.len, rfl⟩⟩
/-- What small answers. -/
def smV (v : Int) : Int := if v.natAbs ≤ 1125899906842624 then v else 0
theorem call45 (h0 : Heap) (v : Int) (hv : -170141183460469231731687303715884105728 < v ∧ v < 170141183460469231731687303715884105728) : ∃ r h', Cal FT HKt 45 [.agg (wd v)] h0 r h' ∧ Ext h0 h' ∧ r = .tup [.sc (.int .i64 (smV v)), .sc (.bool (decide (v.natAbs ≤ 1125899906842624)))] := by
  refine Cal.of (F := a45) rfl rfl rfl ?_
  have k69 := fun H => call69 H v hv
  rw [wd_of (v := (v.natAbs : Int)) (by omega) (by omega)] at k69
  unfold smV
  generalize hW : wd v = W at *
  obtain ⟨w1, w2, rfl⟩ : ∃ w1 w2, W = [w1, w2] := ⟨_, _, hW.symm⟩
  generalize hm : v.natAbs = m at *
  by_cases h1 : m ≤ 1125899906842624
  · rw [if_pos h1, decide_eq_true h1]
    have e0 : ((m : Nat) : Int) / 18446744073709551616 = 0 := by omega
    have e1 : ((m : Nat) : Int) % 18446744073709551616 = m := by omega
    rw [e0, e1] at k69
    by_cases h3 : v < 0
    · rw [decide_eq_true h3] at k69
      repeat' (first | refine w_seq ?_ | refine w_seqN ?_ | refine w_seqR ?_ | refine w_skip ?_ | refine w_ret ?_ | refine w_ops ?_ | ((refine i_cond ?_); first | refine w_condT rfl ?_ | refine w_condF rfl ?_) | ((refine i_nil ?_); first | refine w_end1 rfl ?_ | refine w_end2 rfl rfl ?_ | refine w_end3 rfl rfl rfl ?_) | ((refine i_cons ?_); first | (refine k_boxC rfl ?_; intro h1 e1 c1) | refine k_ldC rfl c1 ?_ | (refine k_call rfl (k69 _) ?_; rintro r h3 ⟨e3, rfl⟩) | (refine k_newst rfl ?_; intro h4 e4 c4) | refine k_ldC0 rfl c4 ?_ | refine k_ldC1 rfl c4 ?_ | refine k_want rfl ?_ | refine k_mv rfl ?_ | refine k_pickF rfl rfl ?_ | refine k_neg rfl (by omega) ?_ | refine k_conv rfl (by omega) ?_ | refine k_gtrF rfl rfl (by omega) ?_ | refine k_neqF rfl rfl (by omega) ?_ | refine k_ok rfl rfl ?_))
      exact ⟨.inr rfl, e1.trans (e3.trans e4), by rw [show v = -((m : Nat) : Int) by omega]⟩
    · rw [decide_eq_false h3] at k69
      repeat' (first | refine w_seq ?_ | refine w_seqN ?_ | refine w_skip ?_ | refine w_ret ?_ | refine w_ops ?_ | ((refine i_cond ?_); refine w_condF rfl ?_) | ((refine i_nil ?_); first | refine w_end1 rfl ?_ | refine w_end2 rfl rfl ?_ | refine w_end3 rfl rfl rfl ?_) | ((refine i_cons ?_); first | (refine k_boxC rfl ?_; intro h1 e1 c1) | refine k_ldC rfl c1 ?_ | (refine k_call rfl (k69 _) ?_; rintro r h3 ⟨e3, rfl⟩) | (refine k_newst rfl ?_; intro h4 e4 c4) | refine k_ldC0 rfl c4 ?_ | refine k_ldC1 rfl c4 ?_ | refine k_want rfl ?_ | refine k_mv rfl ?_ | refine k_pickF rfl rfl ?_ | refine k_conv rfl (by omega) ?_ | refine k_gtrF rfl rfl (by omega) ?_ | refine k_neqF rfl rfl (by omega) ?_ | refine k_ok rfl rfl ?_))
      exact ⟨.inr rfl, e1.trans (e3.trans e4), by rw [show v = ((m : Nat) : Int) by omega]⟩
  · rw [if_neg h1, decide_eq_false h1]
    by_cases h2 : ((m : Nat) : Int) / 18446744073709551616 = 0
    · have e1 : ((m : Nat) : Int) % 18446744073709551616 = m := by omega
      rw [h2, e1] at k69
      repeat' (first | refine w_seq ?_ | refine w_seqN ?_ | refine w_seqR ?_ | refine w_ret ?_ | refine w_ops ?_ | ((refine i_cond ?_); refine w_condT rfl ?_) | ((refine i_nil ?_); first | refine w_end1 rfl ?_ | refine w_end2 rfl rfl ?_ | refine w_end3 rfl rfl rfl ?_) | ((refine i_cons ?_); first | (refine k_boxC rfl ?_; intro h1 e1 c1) | refine k_ldC rfl c1 ?_ | (refine k_call rfl (k69 _) ?_; rintro r h3 ⟨e3, rfl⟩) | (refine k_newst rfl ?_; intro h4 e4 c4) | refine k_ldC0 rfl c4 ?_ | refine k_ldC1 rfl c4 ?_ | refine k_want rfl ?_ | refine k_mv rfl ?_ | refine k_pickF rfl rfl ?_ | refine k_gtrT rfl rfl (by omega) ?_ | refine k_neqF rfl rfl (by omega) ?_ | refine k_ok rfl rfl ?_))
      exact ⟨.inr rfl, e1.trans (e3.trans e4), rfl⟩
    · repeat' (first | refine w_seq ?_ | refine w_seqN ?_ | refine w_seqR ?_ | refine w_ret ?_ | refine w_ops ?_ | ((refine i_cond ?_); refine w_condT rfl ?_) | ((refine i_nil ?_); first | refine w_end1 rfl ?_ | refine w_end2 rfl rfl ?_ | refine w_end3 rfl rfl rfl ?_) | ((refine i_cons ?_); first | (refine k_boxC rfl ?_; intro h1 e1 c1) | refine k_ldC rfl c1 ?_ | (refine k_call rfl (k69 _) ?_; rintro r h3 ⟨e3, rfl⟩) | (refine k_newst rfl ?_; intro h4 e4 c4) | refine k_ldC0 rfl c4 ?_ | refine k_skip rfl ?_ | refine k_mv rfl ?_ | refine k_pickT rfl rfl ?_ | refine k_neqT rfl rfl (by omega) ?_ | refine k_ok rfl rfl ?_))
      exact ⟨.inr rfl, e1.trans (e3.trans e4), rfl⟩
theorem call41 (h0 : Heap) (x y : Int) (hx : -9223372036854775808 ≤ x ∧ x ≤ 9223372036854775807) (hy : -9223372036854775808 ≤ y ∧ y ≤ 9223372036854775807) :
    ∃ r h', Cal FT HKt 41 [.sc (.int .i64 x), .sc (.int .i64 y)] h0 r h' ∧ Ext h0 h' ∧ r = .agg (wd (x * y)) := by
  refine Cal.of (F := a41) rfl rfl rfl ?_
  have hm0 : (0 : Int) ≤ (x.natAbs : Int) * (y.natAbs : Int) := Int.mul_nonneg (by omega) (by omega)
  have hm1 : (x.natAbs : Int) * (y.natAbs : Int) ≤ 9223372036854775808 * 9223372036854775808 := by
    have h1 : (x.natAbs : Int) * (y.natAbs : Int) ≤ 9223372036854775808 * (y.natAbs : Int) := Int.mul_le_mul_of_nonneg_right (by omega) (by omega)
    omega
  have hm : ((x.natAbs : Int) * (y.natAbs : Int)) = ((x * y).natAbs : Int) := by rw [Int.natAbs_mul, Int.natCast_mul]
  have kx := fun H => call70 H x hx
  have ky := fun H => call70 H y hy
  have km := fun H => call73 H (x.natAbs : Int) (y.natAbs : Int) (by omega) (by omega)
  have kn := fun H => call74 H ((x.natAbs : Int) * (y.natAbs : Int))
  rw [wd_of hm0 (by omega)] at kn
  by_cases h1 : x < 0
  · by_cases h2 : y < 0
    · have e : x * y = (x.natAbs : Int) * (y.natAbs : Int) := by
        rw [show (x.natAbs : Int) = -x by omega, show (y.natAbs : Int) = -y by omega, Int.neg_mul_neg]
      rw [e, wd_of hm0 (by omega)]
      generalize (x.natAbs : Int) * (y.natAbs : Int) = m at *
      repeat' (first | refine w_seq ?_ | refine w_seqN ?_ | refine w_skip ?_ | refine w_ret ?_ | refine w_ops ?_ | ((refine i_cond ?_); refine w_condF rfl ?_) | ((refine i_nil ?_); first | refine w_end1 rfl ?_ | refine w_end3 rfl rfl rfl ?_ | refine w_end4 rfl rfl rfl rfl ?_ | refine w_end5 rfl rfl rfl rfl rfl ?_) | ((refine i_cons ?_); first | (have z := e4; refine k_beq rfl rfl ?_) | (have z := e4; refine k_ldC rfl c4 ?_) | (refine k_newst rfl ?_; intro h4 e4 c4; have d1 := c1.ext e4) | (refine k_newC ?_; intro h1 e1 c1) | (refine k_call rfl (kx _) ?_; rintro r _ ⟨rfl, rfl⟩) | (refine k_call rfl (ky _) ?_; rintro r _ ⟨rfl, rfl⟩) | (refine k_call rfl (km _) ?_; rintro r _ ⟨rfl, rfl⟩) | (refine k_stC rfl rfl d1 ?_; intro h5 w5) | refine k_mv rfl ?_ | refine k_lssT rfl rfl (by omega) ?_ | refine k_ok rfl rfl ?_))
      exact ⟨.inr rfl, oK_cell rfl w5.cel.read ⟨w5.ext (e1.trans e4) (Nat.le_refl _), rfl⟩⟩
    · have e : x * y = -((x.natAbs : Int) * (y.natAbs : Int)) := by
        rw [show (x.natAbs : Int) = -x by omega, show (y.natAbs : Int) = y by omega, Int.neg_mul, Int.neg_neg]
      rw [e]
      generalize (x.natAbs : Int) * (y.natAbs : Int) = m at *
      repeat' (first | refine w_seq ?_ | refine w_seqN ?_ | refine w_seqR ?_ | refine w_ret ?_ | refine w_ops ?_ | ((refine i_cond ?_); refine w_condT rfl ?_) | ((refine i_nil ?_); first | refine w_end1 rfl ?_ | refine w_end3 rfl rfl rfl ?_ | refine w_end4 rfl rfl rfl rfl ?_ | refine w_end5 rfl rfl rfl rfl rfl ?_) | ((refine i_cons ?_); first | (have z := e4; refine k_beq rfl rfl ?_) | (have z := e4; refine k_ldC rfl c4 ?_) | (refine k_newst rfl ?_; intro h4 e4 c4; have d1 := c1.ext e4) | (refine k_newC ?_; intro h1 e1 c1) | (refine k_call rfl (kx _) ?_; rintro r _ ⟨rfl, rfl⟩) | (refine k_call rfl (ky _) ?_; rintro r _ ⟨rfl, rfl⟩) | (refine k_call rfl (km _) ?_; rintro r _ ⟨rfl, rfl⟩) | (refine k_call rfl (kn _) ?_; rintro r h6 ⟨e6, rfl⟩; have d6 := d1.ext e6) | (refine k_stC rfl rfl d6 ?_; intro h5 w5) | refine k_mv rfl ?_ | refine k_lssT rfl rfl (by omega) ?_ | refine k_lssF rfl rfl (by omega) ?_ | refine k_ok rfl rfl ?_))
      exact ⟨.inr rfl, oK_cell rfl w5.cel.read ⟨w5.ext (e1.trans (e4.trans e6)) (Nat.le_refl _), rfl⟩⟩
  · by_cases h2 : y < 0
    · have e : x * y = -((x.natAbs : Int) * (y.natAbs : Int)) := by
        rw [show (x.natAbs : Int) = x by omega, show (y.natAbs : Int) = -y by omega, Int.mul_neg, Int.neg_neg]
      rw [e]
      generalize (x.natAbs : Int) * (y.natAbs : Int) = m at *
      repeat' (first | refine w_seq ?_ | refine w_seqN ?_ | refine w_seqR ?_ | refine w_ret ?_ | refine w_ops ?_ | ((refine i_cond ?_); refine w_condT rfl ?_) | ((refine i_nil ?_); first | refine w_end1 rfl ?_ | refine w_end3 rfl rfl rfl ?_ | refine w_end4 rfl rfl rfl rfl ?_ | refine w_end5 rfl rfl rfl rfl rfl ?_) | ((refine i_cons ?_); first | (have z := e4; refine k_beq rfl rfl ?_) | (have z := e4; refine k_ldC rfl c4 ?_) | (refine k_newst rfl ?_; intro h4 e4 c4; have d1 := c1.ext e4) | (refine k_newC ?_; intro h1 e1 c1) | (refine k_call rfl (kx _) ?_; rintro r _ ⟨rfl, rfl⟩) | (refine k_call rfl (ky _) ?_; rintro r _ ⟨rfl, rfl⟩) | (refine k_call rfl (km _) ?_; rintro r _ ⟨rfl, rfl⟩) | (refine k_call rfl (kn _) ?_; rintro r h6 ⟨e6, rfl⟩; have d6 := d1.ext e6) | (refine k_stC rfl rfl d6 ?_; intro h5 w5) | refine k_mv rfl ?_ | refine k_lssT rfl rfl (by omega) ?_ | refine k_lssF rfl rfl (by omega) ?_ | refine k_ok rfl rfl ?_))
      exact ⟨.inr rfl, oK_cell rfl w5.cel.read ⟨w5.ext (e1.trans (e4.trans e6)) (Nat.le_refl _), rfl⟩⟩
    · have e : x * y = (x.natAbs : Int) * (y.natAbs : Int) := by
        rw [show (x.natAbs : Int) = x by omega, show (y.natAbs : Int) = y by omega]
      rw [e, wd_of hm0 (by omega)]
      generalize (x.natAbs : Int) * (y.natAbs : Int) = m at *
      repeat' (first | refine w_seq ?_ | refine w_seqN ?_ | refine w_skip ?_ | refine w_ret ?_ | refine w_ops ?_ | ((refine i_cond ?_); refine w_condF rfl ?_) | ((refine i_nil ?_); first | refine w_end1 rfl ?_ | refine w_end3 rfl rfl rfl ?_ | refine w_end4 rfl rfl rfl rfl ?_ | refine w_end5 rfl rfl rfl rfl rfl ?_) | ((refine i_cons ?_); first | (have z := e4; refine k_beq rfl rfl ?_) | (have z := e4; refine k_ldC rfl c4 ?_) | (refine k_newst rfl ?_; intro h4 e4 c4; have d1 := c1.ext e4) | (refine k_newC ?_; intro h1 e1 c1) | (refine k_call rfl (kx _) ?_; rintro r _ ⟨rfl, rfl⟩) | (refine k_call rfl (ky _) ?_; rintro r _ ⟨rfl, rfl⟩) | (refine k_call rfl (km _) ?_; rintro r _ ⟨rfl, rfl⟩) | (refine k_stC rfl rfl d1 ?_; intro h5 w5) | refine k_mv rfl ?_ | refine k_lssF rfl rfl (by omega) ?_ | refine k_ok rfl rfl ?_))
      exact ⟨.inr rfl, oK_cell rfl w5.cel.read ⟨w5.ext (e1.trans e4) (Nat.le_refl _), rfl⟩⟩
/-- What quotient answers. -/
def quoOk (v c : Int) : Prop := c ∣ v ∧ (v / c).natAbs ≤ 1125899906842624
instance (v c : Int) : Decidable (quoOk v c) := inferInstanceAs (Decidable (_ ∧ _))
theorem quo_nat {v c : Int} : quoOk v c ↔ v.natAbs % c.natAbs = 0 ∧ v.natAbs / c.natAbs ≤ 1125899906842624 := by
  unfold quoOk
  rw [← Nat.dvd_iff_mod_eq_zero, Int.natAbs_dvd_natAbs]
  constructor
  · rintro ⟨a, b⟩
    rw [Int.natAbs_ediv_of_dvd a] at b
    exact ⟨a, b⟩
  · rintro ⟨a, b⟩
    rw [← Int.natAbs_ediv_of_dvd a] at b
    exact ⟨a, b⟩
theorem quo_val {v c : Int} (hc : c ≠ 0) (h : quoOk v c) : v / c = if decide (v < 0) = decide (c < 0) then ((v.natAbs / c.natAbs : Nat) : Int) else -((v.natAbs / c.natAbs : Nat) : Int) := by
  obtain ⟨⟨k, rfl⟩, _⟩ := h
  rw [← Int.natAbs_ediv_of_dvd (Int.dvd_mul_right c k), Int.mul_ediv_cancel_left _ hc]
  have h1 : 0 < k → 0 < c → 0 < c * k := fun a b => Int.mul_pos b a
  have h2 : 0 < k → c < 0 → c * k < 0 := fun a b => Int.mul_neg_of_neg_of_pos b a
  have h3 : k < 0 → 0 < c → c * k < 0 := fun a b => Int.mul_neg_of_pos_of_neg b a
  have h4 : k < 0 → c < 0 → 0 < c * k := fun a b => Int.mul_pos_of_neg_of_neg b a
  by_cases hk : k = 0
  · subst hk; simp
  by_cases a : c * k < 0 <;> by_cases b : c < 0
  · rw [decide_eq_true a, decide_eq_true b, if_pos rfl]; omega
  · rw [decide_eq_true a, decide_eq_false b, if_neg (by simp)]; omega
  · rw [decide_eq_false a, decide_eq_true b, if_neg (by simp)]; omega
  · rw [decide_eq_false a, decide_eq_false b, if_pos rfl]; omega
theorem call39 (h0 : Heap) (v c : Int) (hv : -170141183460469231731687303715884105728 < v ∧ v < 170141183460469231731687303715884105728) (hc : -9223372036854775808 ≤ c ∧ c ≤ 9223372036854775807) (hc0 : c ≠ 0) :
    ∃ r h', Cal FT HKt 39 [.agg (wd v), .sc (.int .i64 c)] h0 r h' ∧ Ext h0 h' ∧ r = .tup [.sc (.int .i64 (if quoOk v c then v / c else 0)), .sc (.bool (decide (quoOk v c)))] := by
  refine Cal.of (F := a39) rfl rfl rfl ?_
  have k69 := fun H => call69 H v hv
  have k70 := fun H => call70 H c hc
  rw [wd_of (v := (v.natAbs : Int)) (by omega) (by omega)] at k69
  rw [show ((v.natAbs : Nat) : Int) / 18446744073709551616 = ((v.natAbs / 18446744073709551616 : Nat) : Int) by omega, show ((v.natAbs : Nat) : Int) % 18446744073709551616 = ((v.natAbs % 18446744073709551616 : Nat) : Int) by omega] at k69
  have hq := @quo_nat v c
  have hval := @quo_val v c hc0
  have k71 := fun H hlt => call71 H (v.natAbs / 18446744073709551616) (v.natAbs % 18446744073709551616) c.natAbs hlt (by omega) (by omega)
  rw [show v.natAbs / 18446744073709551616 * 18446744073709551616 + v.natAbs % 18446744073709551616 = v.natAbs by omega] at k71
  have hb : 1 ≤ c.natAbs := by omega
  have hQ : c.natAbs * 18446744073709551616 ≤ v.natAbs → 18446744073709551616 ≤ v.natAbs / c.natAbs := fun h => (Nat.le_div_iff_mul_le (by omega)).2 (by rw [Nat.mul_comm]; exact h)
  have hlo : v.natAbs / 18446744073709551616 < c.natAbs ∨ c.natAbs * 18446744073709551616 ≤ v.natAbs := by omega
  generalize hW : wd v = W at *
  obtain ⟨w1, w2, rfl⟩ : ∃ w1 w2, W = [w1, w2] := ⟨_, _, hW.symm⟩
  by_cases hov : v.natAbs / 18446744073709551616 < c.natAbs
  · have k71' := fun H => k71 H hov
    generalize hqq : v.natAbs / c.natAbs = Q at *
    generalize hrr : v.natAbs % c.natAbs = R at *
    generalize v.natAbs / 18446744073709551616 = m1 at *
    generalize v.natAbs % 18446744073709551616 = m0 at *
    generalize c.natAbs = cb at *
    by_cases hR : R = 0
    · by_cases hQ2 : Q ≤ 1125899906842624
      · have ok : quoOk v c := hq.2 ⟨hR, hQ2⟩
        rw [if_pos ok, decide_eq_true ok, hval ok]
        by_cases hs : decide (v < 0) = decide (c < 0)
        · rw [if_pos hs]
          generalize hsv : decide (v < 0) = sv at *
          by_cases hcn : c < 0
          · rw [decide_eq_true hcn] at hs
            subst hs
            repeat' (first | refine w_seq ?_ | refine w_seqN ?_ | refine w_skip ?_ | refine w_ret ?_ | refine w_ops ?_ | ((refine i_cond ?_); refine w_condF rfl ?_) | ((refine i_nil ?_); first | refine w_end2 rfl rfl ?_ | refine w_end3 rfl rfl rfl ?_ | refine w_end4 rfl rfl rfl rfl ?_ | refine w_end5 rfl rfl rfl rfl rfl ?_) | ((refine i_cons ?_); first | (have z := e6; refine k_beq rfl rfl ?_) | (refine k_boxC rfl ?_; intro h1 e1 c1) | refine k_ldC rfl c1 ?_ | (refine k_call rfl (k69 _) ?_; rintro r h3 ⟨e3, rfl⟩) | (refine k_newst rfl ?_; intro h4 e4 c4) | (refine k_call rfl (k70 _) ?_; rintro r h5 ⟨rfl, e5⟩; have e6 : Ext h4 h5 := e5 ▸ Ext.refl _; have c5 := c4.ext e6) | refine k_ldC0 rfl c5 ?_ | refine k_ldC1 rfl c5 ?_ | (refine k_call rfl (k71' _) ?_; rintro r _ ⟨rfl, rfl⟩) | refine k_want rfl ?_ | refine k_mv rfl ?_ | refine k_pickF rfl rfl ?_ | refine k_conv rfl (by omega) ?_ | refine k_lssT rfl rfl (by omega) ?_ | refine k_gtrF rfl rfl (by omega) ?_ | refine k_geqF rfl rfl (by omega) ?_ | refine k_neqF rfl rfl (by omega) ?_ | refine k_ok rfl rfl ?_))
            exact ⟨.inr rfl, e1.trans (e3.trans (e4.trans e6)), rfl⟩
          · rw [decide_eq_false hcn] at hs
            subst hs
            repeat' (first | refine w_seq ?_ | refine w_seqN ?_ | refine w_skip ?_ | refine w_ret ?_ | refine w_ops ?_ | ((refine i_cond ?_); refine w_condF rfl ?_) | ((refine i_nil ?_); first | refine w_end2 rfl rfl ?_ | refine w_end3 rfl rfl rfl ?_ | refine w_end4 rfl rfl rfl rfl ?_ | refine w_end5 rfl rfl rfl rfl rfl ?_) | ((refine i_cons ?_); first | (have z := e6; refine k_beq rfl rfl ?_) | (refine k_boxC rfl ?_; intro h1 e1 c1) | refine k_ldC rfl c1 ?_ | (refine k_call rfl (k69 _) ?_; rintro r h3 ⟨e3, rfl⟩) | (refine k_newst rfl ?_; intro h4 e4 c4) | (refine k_call rfl (k70 _) ?_; rintro r h5 ⟨rfl, e5⟩; have e6 : Ext h4 h5 := e5 ▸ Ext.refl _; have c5 := c4.ext e6) | refine k_ldC0 rfl c5 ?_ | refine k_ldC1 rfl c5 ?_ | (refine k_call rfl (k71' _) ?_; rintro r _ ⟨rfl, rfl⟩) | refine k_want rfl ?_ | refine k_mv rfl ?_ | refine k_pickF rfl rfl ?_ | refine k_conv rfl (by omega) ?_ | refine k_lssF rfl rfl (by omega) ?_ | refine k_gtrF rfl rfl (by omega) ?_ | refine k_geqF rfl rfl (by omega) ?_ | refine k_neqF rfl rfl (by omega) ?_ | refine k_ok rfl rfl ?_))
            exact ⟨.inr rfl, e1.trans (e3.trans (e4.trans e6)), rfl⟩
        · rw [if_neg hs]
          generalize hsv : decide (v < 0) = sv at *
          by_cases hcn : c < 0
          · rw [decide_eq_true hcn] at hs
            obtain rfl : sv = false := by simpa using hs
            repeat' (first | refine w_seq ?_ | refine w_seqN ?_ | refine w_seqR ?_ | refine w_skip ?_ | refine w_ret ?_ | refine w_ops ?_ | ((refine i_cond ?_); first | refine w_condT rfl ?_ | refine w_condF rfl ?_) | ((refine i_nil ?_); first | refine w_end2 rfl rfl ?_ | refine w_end3 rfl rfl rfl ?_ | refine w_end4 rfl rfl rfl rfl ?_ | refine w_end5 rfl rfl rfl rfl rfl ?_) | ((refine i_cons ?_); first | (have z := e6; refine k_beq rfl rfl ?_) | (refine k_boxC rfl ?_; intro h1 e1 c1) | refine k_ldC rfl c1 ?_ | (refine k_call rfl (k69 _) ?_; rintro r h3 ⟨e3, rfl⟩) | (refine k_newst rfl ?_; intro h4 e4 c4) | (refine k_call rfl (k70 _) ?_; rintro r h5 ⟨rfl, e5⟩; have e6 : Ext h4 h5 := e5 ▸ Ext.refl _; have c5 := c4.ext e6) | refine k_ldC0 rfl c5 ?_ | refine k_ldC1 rfl c5 ?_ | (refine k_call rfl (k71' _) ?_; rintro r _ ⟨rfl, rfl⟩) | refine k_want rfl ?_ | refine k_mv rfl ?_ | refine k_pickF rfl rfl ?_ | refine k_neg rfl (by omega) ?_ | refine k_conv rfl (by omega) ?_ | refine k_lssT rfl rfl (by omega) ?_ | refine k_gtrF rfl rfl (by omega) ?_ | refine k_geqF rfl rfl (by omega) ?_ | refine k_neqF rfl rfl (by omega) ?_ | refine k_ok rfl rfl ?_))
            exact ⟨.inr rfl, e1.trans (e3.trans (e4.trans e6)), rfl⟩
          · rw [decide_eq_false hcn] at hs
            obtain rfl : sv = true := by simpa using hs
            repeat' (first | refine w_seq ?_ | refine w_seqN ?_ | refine w_seqR ?_ | refine w_skip ?_ | refine w_ret ?_ | refine w_ops ?_ | ((refine i_cond ?_); first | refine w_condT rfl ?_ | refine w_condF rfl ?_) | ((refine i_nil ?_); first | refine w_end2 rfl rfl ?_ | refine w_end3 rfl rfl rfl ?_ | refine w_end4 rfl rfl rfl rfl ?_ | refine w_end5 rfl rfl rfl rfl rfl ?_) | ((refine i_cons ?_); first | (have z := e6; refine k_beq rfl rfl ?_) | (refine k_boxC rfl ?_; intro h1 e1 c1) | refine k_ldC rfl c1 ?_ | (refine k_call rfl (k69 _) ?_; rintro r h3 ⟨e3, rfl⟩) | (refine k_newst rfl ?_; intro h4 e4 c4) | (refine k_call rfl (k70 _) ?_; rintro r h5 ⟨rfl, e5⟩; have e6 : Ext h4 h5 := e5 ▸ Ext.refl _; have c5 := c4.ext e6) | refine k_ldC0 rfl c5 ?_ | refine k_ldC1 rfl c5 ?_ | (refine k_call rfl (k71' _) ?_; rintro r _ ⟨rfl, rfl⟩) | refine k_want rfl ?_ | refine k_mv rfl ?_ | refine k_pickF rfl rfl ?_ | refine k_neg rfl (by omega) ?_ | refine k_conv rfl (by omega) ?_ | refine k_lssF rfl rfl (by omega) ?_ | refine k_gtrF rfl rfl (by omega) ?_ | refine k_geqF rfl rfl (by omega) ?_ | refine k_neqF rfl rfl (by omega) ?_ | refine k_ok rfl rfl ?_))
            exact ⟨.inr rfl, e1.trans (e3.trans (e4.trans e6)), rfl⟩
      · have ok : ¬ quoOk v c := fun h => hQ2 (hq.1 h).2
        rw [if_neg ok, decide_eq_false ok]
        repeat' (first | refine w_seq ?_ | refine w_seqN ?_ | refine w_seqR ?_ | refine w_skip ?_ | refine w_ret ?_ | refine w_ops ?_ | ((refine i_cond ?_); first | refine w_condT rfl ?_ | refine w_condF rfl ?_) | ((refine i_nil ?_); first | refine w_end2 rfl rfl ?_ | refine w_end3 rfl rfl rfl ?_ | refine w_end4 rfl rfl rfl rfl ?_ | refine w_end5 rfl rfl rfl rfl rfl ?_) | ((refine i_cons ?_); first | (refine k_boxC rfl ?_; intro h1 e1 c1) | refine k_ldC rfl c1 ?_ | (refine k_call rfl (k69 _) ?_; rintro r h3 ⟨e3, rfl⟩) | (refine k_newst rfl ?_; intro h4 e4 c4) | (refine k_call rfl (k70 _) ?_; rintro r h5 ⟨rfl, e5⟩; have e6 : Ext h4 h5 := e5 ▸ Ext.refl _; have c5 := c4.ext e6) | refine k_ldC0 rfl c5 ?_ | refine k_ldC1 rfl c5 ?_ | (refine k_call rfl (k71' _) ?_; rintro r _ ⟨rfl, rfl⟩) | refine k_want rfl ?_ | refine k_mv rfl ?_ | refine k_pickF rfl rfl ?_ | refine k_gtrT rfl rfl (by omega) ?_ | refine k_geqF rfl rfl (by omega) ?_ | refine k_neqF rfl rfl (by omega) ?_ | refine k_ok rfl rfl ?_))
        exact ⟨.inr rfl, e1.trans (e3.trans (e4.trans e6)), rfl⟩
    · have ok : ¬ quoOk v c := fun h => hR (hq.1 h).1
      rw [if_neg ok, decide_eq_false ok]
      repeat' (first | refine w_seq ?_ | refine w_seqN ?_ | refine w_seqR ?_ | refine w_skip ?_ | refine w_ret ?_ | refine w_ops ?_ | ((refine i_cond ?_); first | refine w_condT rfl ?_ | refine w_condF rfl ?_) | ((refine i_nil ?_); first | refine w_end2 rfl rfl ?_ | refine w_end3 rfl rfl rfl ?_ | refine w_end4 rfl rfl rfl rfl ?_ | refine w_end5 rfl rfl rfl rfl rfl ?_) | ((refine i_cons ?_); first | (refine k_boxC rfl ?_; intro h1 e1 c1) | refine k_ldC rfl c1 ?_ | (refine k_call rfl (k69 _) ?_; rintro r h3 ⟨e3, rfl⟩) | (refine k_newst rfl ?_; intro h4 e4 c4) | (refine k_call rfl (k70 _) ?_; rintro r h5 ⟨rfl, e5⟩; have e6 : Ext h4 h5 := e5 ▸ Ext.refl _; have c5 := c4.ext e6) | refine k_ldC0 rfl c5 ?_ | refine k_ldC1 rfl c5 ?_ | (refine k_call rfl (k71' _) ?_; rintro r _ ⟨rfl, rfl⟩) | refine k_skip rfl ?_ | refine k_mv rfl ?_ | refine k_pickT rfl rfl ?_ | refine k_geqF rfl rfl (by omega) ?_ | refine k_neqT rfl rfl (by omega) ?_ | refine k_ok rfl rfl ?_))
      exact ⟨.inr rfl, e1.trans (e3.trans (e4.trans e6)), rfl⟩
  · have ok : ¬ quoOk v c := fun h => by
      have h1 := (hq.1 h).2
      have h2 := hQ (by omega)
      omega
    rw [if_neg ok, decide_eq_false ok]
    generalize hm1 : v.natAbs / 18446744073709551616 = m1 at *
    generalize v.natAbs % 18446744073709551616 = m0 at *
    generalize hcb : c.natAbs = cb at *
    repeat' (first | refine w_seq ?_ | refine w_seqN ?_ | refine w_seqR ?_ | refine w_ret ?_ | refine w_ops ?_ | ((refine i_cond ?_); refine w_condT rfl ?_) | ((refine i_nil ?_); first | refine w_end2 rfl rfl ?_ | refine w_end3 rfl rfl rfl ?_ | refine w_end4 rfl rfl rfl rfl ?_ | refine w_end5 rfl rfl rfl rfl rfl ?_) | ((refine i_cons ?_); first | (refine k_boxC rfl ?_; intro h1 e1 c1) | refine k_ldC rfl c1 ?_ | (refine k_call rfl (k69 _) ?_; rintro r h3 ⟨e3, rfl⟩) | (refine k_newst rfl ?_; intro h4 e4 c4) | (refine k_call rfl (k70 _) ?_; rintro r h5 ⟨rfl, e5⟩; have e6 : Ext h4 h5 := e5 ▸ Ext.refl _; have c5 := c4.ext e6) | refine k_ldC0 rfl c5 ?_ | refine k_mv rfl ?_ | refine k_geqT rfl rfl (by omega) ?_ | refine k_ok rfl rfl ?_))
    exact ⟨.inr rfl, e1.trans (e3.trans (e4.trans e6)), rfl⟩
end Go.Proofs.YtlnjddjobbhcaaaDoor
