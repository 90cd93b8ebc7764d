/- Division of 128 bits by 64: plain, and contracts. -/
import Derived.Test.YtofknpknogfijaaGreatDoorW1
namespace Go.Proofs.YtofknpknogfijaaGreatDoor
open Go.Ab
set_option linter.unusedVariables false
set_option linter.unusedSimpArgs false
set_option maxRecDepth 20000
set_option maxHeartbeats 4000000
attribute [local irreducible] wOps wA wSeq wBlk wRound wRoundI wOpsD wOpsS
set_option linter.unusedSectionVars false
variable [HB]

/-! ### The length in bits -/
def tab8 : ByteArray := ⟨#[0, 1, 2, 2, 3, 3, 3, 3, 4, 4, 4, 4, 4, 4, 4, 4, 5, 5, 5, 5, 5, 5, 5, 5, 5, 5, 5, 5, 5, 5, 5, 5, 6, 6, 6, 6, 6, 6, 6, 6, 6, 6, 6, 6, 6, 6, 6, 6, 6, 6, 6, 6, 6, 6, 6, 6, 6, 6, 6, 6, 6, 6, 6, 6, 7, 7, 7, 7, 7, 7, 7, 7, 7, 7, 7, 7, 7, 7, 7, 7, 7, 7, 7, 7, 7, 7, 7, 7, 7, 7, 7, 7, 7, 7, 7, 7, 7, 7, 7, 7, 7, 7, 7, 7, 7, 7, 7, 7, 7, 7, 7, 7, 7, 7, 7, 7, 7, 7, 7, 7, 7, 7, 7, 7, 7, 7, 7, 7, 8, 8, 8, 8, 8, 8, 8, 8, 8, 8, 8, 8, 8, 8, 8, 8, 8, 8, 8, 8, 8, 8, 8, 8, 8, 8, 8, 8, 8, 8, 8, 8, 8, 8, 8, 8, 8, 8, 8, 8, 8, 8, 8, 8, 8, 8, 8, 8, 8, 8, 8, 8, 8, 8, 8, 8, 8, 8, 8, 8, 8, 8, 8, 8, 8, 8, 8, 8, 8, 8, 8, 8, 8, 8, 8, 8, 8, 8, 8, 8, 8, 8, 8, 8, 8, 8, 8, 8, 8, 8, 8, 8, 8, 8, 8, 8, 8, 8, 8, 8, 8, 8, 8, 8, 8, 8, 8, 8, 8, 8, 8, 8, 8, 8, 8, 8, 8, 8, 8, 8, 8, 8, 8, 8, 8, 8, 8, 8]⟩
theorem len8 : ∀ x : Nat, x < 256 → ∃ b : UInt8, tab8[x]? = some b ∧ x < 2 ^ b.toNat ∧ (x = 0 ∨ 2 ^ b.toNat ≤ 2 * x) ∧ b.toNat ≤ 8 := by
  have key : ∀ x : Fin 256, (match tab8[x.val]? with
      | some b => decide (x.val < 2 ^ b.toNat) && (decide (x.val = 0) || decide (2 ^ b.toNat ≤ 2 * x.val)) && decide (b.toNat ≤ 8)
      | none => false) = true := by decide +kernel
  intro x hx
  have h := key ⟨x, hx⟩
  simp only at h
  split at h
  · rename_i b hb
    simp only [Bool.and_eq_true, Bool.or_eq_true, decide_eq_true_eq] at h
    exact ⟨b, hb, h.1.1, h.1.2, h.2⟩
  · cases h
theorem k_idxS {FT : FuncId → Option AFun} {HK : FuncId → Option Hook} {E : Env} {h : Heap} {K : Env → Heap → Prop} {d : Option Nat} {r : List AOp} {x i : AO} {s : ByteArray} {kd : IntKind} {j : Nat} {b : UInt8} (hx : evS E x = some (.str s)) (hi : evS E i = some (.int kd (j : Nat))) (hb : s[j]? = some b) (hw : wOps FT HK r (bindE d (some (.sc (.int .u8 (b.toNat : Nat)))) E) h K) :
    wOps FT HK (⟨d, .idxS x i, none⟩ :: r) E h K :=
  op_ok rfl rfl (by simp [step1, hx, hi, hb]) hw
/-- Bits of x: L. -/
def LenIs (x : Nat) (L : Nat) : Prop := x < 2 ^ L ∧ 2 ^ L ≤ 2 * x ∧ L ≤ 64
theorem lenIs_shift {x q b : Nat} (h1 : x / 2 ^ q < 2 ^ b) (h2 : 2 ^ b ≤ 2 * (x / 2 ^ q)) (hb : q + b ≤ 64) : LenIs x (q + b) := by
  have hp : 0 < 2 ^ q := Nat.pow_pos (by omega)
  refine ⟨?_, ?_, hb⟩
  · rw [Nat.pow_add, Nat.mul_comm]; exact (Nat.div_lt_iff_lt_mul hp).1 h1
  · rw [Nat.pow_add]
    have h3 : 2 ^ q * (x / 2 ^ q) ≤ x := Nat.mul_div_le x (2 ^ q)
    have h4 := Nat.mul_le_mul_left (2 ^ q) h2
    have h5 : 2 ^ q * (2 * (x / 2 ^ q)) = 2 * (2 ^ q * (x / 2 ^ q)) := by rw [Nat.mul_left_comm]
    omega
theorem call139 (h0 : Heap) (x : Nat) (hx : 0 < x ∧ x < 18446744073709551616) : ∃ r h', Cal FT HKt 139 [.sc (.int .u64 (x : Nat))] h0 r h' ∧ h' = h0 ∧ ∃ L : Nat, r = .sc (.int .i64 (L : Nat)) ∧ LenIs x L := by
  refine Cal.of (F := a139) rfl rfl rfl ?_
  have fin : ∀ (q y : Nat), y = x / 2 ^ q → 0 < y → y < 256 → q ≤ 56 → ∃ b : UInt8, tab8[y]? = some b ∧ b.toNat ≤ 8 ∧ LenIs x (q + b.toNat) := by
    intro q y hy h1 h2 h3
    obtain ⟨b, b1, b2, b3, b4⟩ := len8 y h2
    subst hy
    exact ⟨b, b1, b4, lenIs_shift b2 (by omega) (by omega)⟩
  have f := fun q (h1 : 0 < x / 2 ^ q) (h2 : x / 2 ^ q < 256) (h3 : q ≤ 56) => fin q _ rfl h1 h2 h3
  by_cases c1 : 4294967296 ≤ x
  · by_cases c2 : 281474976710656 ≤ x
    · by_cases c3 : 72057594037927936 ≤ x
      · obtain ⟨b, hb, hb8, hL⟩ := f 56 (by omega) (by omega) (by omega)
        have e1 : ((x : Nat) : Int) / (2 ^ 32 : Nat) / (2 ^ 16 : Nat) / (2 ^ 8 : Nat) = ((x / 2 ^ 56 : Nat) : Int) := by omega
        have e2 : x / 2 ^ 56 < 256 := by omega
        generalize x / 2 ^ 56 = y at *
        repeat' (first | refine w_seq ?_ | refine w_seqN ?_ | refine w_ret ?_ | refine w_ops ?_ | ((refine i_cond ?_); refine w_condT rfl ?_) | ((refine i_nil ?_); first | refine w_end1 rfl ?_ | refine w_end2 rfl rfl ?_ | refine w_end3 rfl rfl rfl ?_) | ((refine i_cons ?_); first | (refine k_shrU (q := 32) rfl rfl rfl (by omega) ?_) | (refine k_shrU (q := 16) rfl rfl rfl (by omega) ?_) | (refine k_shrU (q := 8) rfl rfl rfl (by omega) ?_; rw [e1]) | (refine k_cv8 rfl (by omega) ?_) | refine k_idxS rfl rfl hb ?_ | refine k_mv rfl ?_ | refine k_add rfl rfl (by omega) ?_ | refine k_conv rfl (by omega) ?_ | refine k_geqT rfl rfl (by omega) ?_))
        exact ⟨.inr rfl, rfl, _, by rw [show (32 : Int) + 16 + 8 + (b.toNat : Nat) = ((56 + b.toNat : Nat) : Int) by omega]; rfl, hL⟩
      · obtain ⟨b, hb, hb8, hL⟩ := f 48 (by omega) (by omega) (by omega)
        have e1 : ((x : Nat) : Int) / (2 ^ 32 : Nat) / (2 ^ 16 : Nat) = ((x / 2 ^ 48 : Nat) : Int) := by omega
        have e2 : x / 2 ^ 48 < 256 := by omega
        generalize x / 2 ^ 48 = y at *
        repeat' (first | refine w_seq ?_ | refine w_seqN ?_ | refine w_skip ?_ | refine w_ret ?_ | refine w_ops ?_ | ((refine i_cond ?_); first | refine w_condT rfl ?_ | refine w_condF rfl ?_) | ((refine i_nil ?_); first | refine w_end1 rfl ?_ | refine w_end2 rfl rfl ?_ | refine w_end3 rfl rfl rfl ?_) | ((refine i_cons ?_); first | (refine k_shrU (q := 32) rfl rfl rfl (by omega) ?_) | (refine k_shrU (q := 16) rfl rfl rfl (by omega) ?_; rw [e1]) | (refine k_cv8 rfl (by omega) ?_) | refine k_idxS rfl rfl hb ?_ | refine k_mv rfl ?_ | refine k_add rfl rfl (by omega) ?_ | refine k_conv rfl (by omega) ?_ | refine k_geqT rfl rfl (by omega) ?_ | refine k_geqF rfl rfl (by omega) ?_))
        exact ⟨.inr rfl, rfl, _, by rw [show (32 : Int) + 16 + (b.toNat : Nat) = ((48 + b.toNat : Nat) : Int) by omega]; rfl, hL⟩
    · by_cases c3 : 1099511627776 ≤ x
      · obtain ⟨b, hb, hb8, hL⟩ := f 40 (by omega) (by omega) (by omega)
        have e1 : ((x : Nat) : Int) / (2 ^ 32 : Nat) / (2 ^ 8 : Nat) = ((x / 2 ^ 40 : Nat) : Int) := by omega
        have e2 : x / 2 ^ 40 < 256 := by omega
        generalize x / 2 ^ 40 = y at *
        repeat' (first | refine w_seq ?_ | refine w_seqN ?_ | refine w_skip ?_ | refine w_ret ?_ | refine w_ops ?_ | ((refine i_cond ?_); first | refine w_condT rfl ?_ | refine w_condF rfl ?_) | ((refine i_nil ?_); first | refine w_end1 rfl ?_ | refine w_end2 rfl rfl ?_ | refine w_end3 rfl rfl rfl ?_) | ((refine i_cons ?_); first | (refine k_shrU (q := 32) rfl rfl rfl (by omega) ?_) | (refine k_shrU (q := 8) rfl rfl rfl (by omega) ?_; rw [e1]) | (refine k_cv8 rfl (by omega) ?_) | refine k_idxS rfl rfl hb ?_ | refine k_mv rfl ?_ | refine k_add rfl rfl (by omega) ?_ | refine k_conv rfl (by omega) ?_ | refine k_geqT rfl rfl (by omega) ?_ | refine k_geqF rfl rfl (by omega) ?_))
        exact ⟨.inr rfl, rfl, _, by rw [show (32 : Int) + 8 + (b.toNat : Nat) = ((40 + b.toNat : Nat) : Int) by omega]; rfl, hL⟩
      · obtain ⟨b, hb, hb8, hL⟩ := f 32 (by omega) (by omega) (by omega)
        have e1 : ((x : Nat) : Int) / (2 ^ 32 : Nat) = ((x / 2 ^ 32 : Nat) : Int) := by omega
        have e2 : x / 2 ^ 32 < 256 := by omega
        generalize x / 2 ^ 32 = y at *
        repeat' (first | refine w_seq ?_ | refine w_seqN ?_ | refine w_skip ?_ | refine w_ret ?_ | refine w_ops ?_ | ((refine i_cond ?_); first | refine w_condT rfl ?_ | refine w_condF rfl ?_) | ((refine i_nil ?_); first | refine w_end1 rfl ?_ | refine w_end2 rfl rfl ?_ | refine w_end3 rfl rfl rfl ?_) | ((refine i_cons ?_); first | (refine k_shrU (q := 32) rfl rfl rfl (by omega) ?_; rw [e1]) | (refine k_cv8 rfl (by omega) ?_) | refine k_idxS rfl rfl hb ?_ | refine k_mv rfl ?_ | refine k_add rfl rfl (by omega) ?_ | refine k_conv rfl (by omega) ?_ | refine k_geqT rfl rfl (by omega) ?_ | refine k_geqF rfl rfl (by omega) ?_))
        exact ⟨.inr rfl, rfl, _, by rw [show (32 : Int) + (b.toNat : Nat) = ((32 + b.toNat : Nat) : Int) by omega]; rfl, hL⟩
  · by_cases c2 : 65536 ≤ x
    · by_cases c3 : 16777216 ≤ x
      · obtain ⟨b, hb, hb8, hL⟩ := f 24 (by omega) (by omega) (by omega)
        have e1 : ((x : Nat) : Int) / (2 ^ 16 : Nat) / (2 ^ 8 : Nat) = ((x / 2 ^ 24 : Nat) : Int) := by omega
        have e2 : x / 2 ^ 24 < 256 := by omega
        generalize x / 2 ^ 24 = y at *
        repeat' (first | refine w_seq ?_ | refine w_seqN ?_ | refine w_skip ?_ | refine w_ret ?_ | refine w_ops ?_ | ((refine i_cond ?_); first | refine w_condT rfl ?_ | refine w_condF rfl ?_) | ((refine i_nil ?_); first | refine w_end1 rfl ?_ | refine w_end2 rfl rfl ?_ | refine w_end3 rfl rfl rfl ?_) | ((refine i_cons ?_); first | (refine k_shrU (q := 16) rfl rfl rfl (by omega) ?_) | (refine k_shrU (q := 8) rfl rfl rfl (by omega) ?_; rw [e1]) | (refine k_cv8 rfl (by omega) ?_) | refine k_idxS rfl rfl hb ?_ | refine k_mv rfl ?_ | refine k_add rfl rfl (by omega) ?_ | refine k_conv rfl (by omega) ?_ | refine k_geqT rfl rfl (by omega) ?_ | refine k_geqF rfl rfl (by omega) ?_))
        exact ⟨.inr rfl, rfl, _, by rw [show (0 : Int) + 16 + 8 + (b.toNat : Nat) = ((24 + b.toNat : Nat) : Int) by omega]; rfl, hL⟩
      · obtain ⟨b, hb, hb8, hL⟩ := f 16 (by omega) (by omega) (by omega)
        have e1 : ((x : Nat) : Int) / (2 ^ 16 : Nat) = ((x / 2 ^ 16 : Nat) : Int) := by omega
        have e2 : x / 2 ^ 16 < 256 := by omega
        generalize x / 2 ^ 16 = y at *
        repeat' (first | refine w_seq ?_ | refine w_seqN ?_ | refine w_skip ?_ | refine w_ret ?_ | refine w_ops ?_ | ((refine i_cond ?_); first | refine w_condT rfl ?_ | refine w_condF rfl ?_) | ((refine i_nil ?_); first | refine w_end1 rfl ?_ | refine w_end2 rfl rfl ?_ | refine w_end3 rfl rfl rfl ?_) | ((refine i_cons ?_); first | (refine k_shrU (q := 16) rfl rfl rfl (by omega) ?_; rw [e1]) | (refine k_cv8 rfl (by omega) ?_) | refine k_idxS rfl rfl hb ?_ | refine k_mv rfl ?_ | refine k_add rfl rfl (by omega) ?_ | refine k_conv rfl (by omega) ?_ | refine k_geqT rfl rfl (by omega) ?_ | refine k_geqF rfl rfl (by omega) ?_))
        exact ⟨.inr rfl, rfl, _, by rw [show (0 : Int) + 16 + (b.toNat : Nat) = ((16 + b.toNat : Nat) : Int) by omega]; rfl, hL⟩
    · by_cases c3 : 256 ≤ x
      · obtain ⟨b, hb, hb8, hL⟩ := f 8 (by omega) (by omega) (by omega)
        have e1 : ((x : Nat) : Int) / (2 ^ 8 : Nat) = ((x / 2 ^ 8 : Nat) : Int) := by omega
        have e2 : x / 2 ^ 8 < 256 := by omega
        generalize x / 2 ^ 8 = y at *
        repeat' (first | refine w_seq ?_ | refine w_seqN ?_ | refine w_skip ?_ | refine w_ret ?_ | refine w_ops ?_ | ((refine i_cond ?_); first | refine w_condT rfl ?_ | refine w_condF rfl ?_) | ((refine i_nil ?_); first | refine w_end1 rfl ?_ | refine w_end2 rfl rfl ?_ | refine w_end3 rfl rfl rfl ?_) | ((refine i_cons ?_); first | (refine k_shrU (q := 8) rfl rfl rfl (by omega) ?_; rw [e1]) | (refine k_cv8 rfl (by omega) ?_) | refine k_idxS rfl rfl hb ?_ | refine k_mv rfl ?_ | refine k_add rfl rfl (by omega) ?_ | refine k_conv rfl (by omega) ?_ | refine k_geqT rfl rfl (by omega) ?_ | refine k_geqF rfl rfl (by omega) ?_))
        exact ⟨.inr rfl, rfl, _, by rw [show (0 : Int) + 8 + (b.toNat : Nat) = ((8 + b.toNat : Nat) : Int) by omega]; rfl, hL⟩
      · obtain ⟨b, hb, hb8, hL⟩ := f 0 (by omega) (by omega) (by omega)
        rw [show x / 2 ^ 0 = x by omega] at hb
        repeat' (first | refine w_seq ?_ | refine w_seqN ?_ | refine w_skip ?_ | refine w_ret ?_ | refine w_ops ?_ | ((refine i_cond ?_); refine w_condF rfl ?_) | ((refine i_nil ?_); first | refine w_end1 rfl ?_ | refine w_end2 rfl rfl ?_ | refine w_end3 rfl rfl rfl ?_) | ((refine i_cons ?_); first | (refine k_cv8 rfl (by omega) ?_) | refine k_idxS rfl rfl hb ?_ | refine k_mv rfl ?_ | refine k_add rfl rfl (by omega) ?_ | refine k_conv rfl (by omega) ?_ | refine k_geqF rfl rfl (by omega) ?_))
        exact ⟨.inr rfl, rfl, _, by rw [show (0 : Int) + (b.toNat : Nat) = ((0 + b.toNat : Nat) : Int) by omega]; rfl, hL⟩
end Go.Proofs.YtofknpknogfijaaGreatDoor
