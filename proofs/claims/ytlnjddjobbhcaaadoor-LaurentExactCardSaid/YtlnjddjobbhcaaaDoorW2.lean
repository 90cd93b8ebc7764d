/- Integers of 128 bits: contracts. -/
import Derived.Test.YtlnjddjobbhcaaaDoorT5
import Derived.Test.YtlnjddjobbhcaaaDoorAb41
import Derived.Test.YtlnjddjobbhcaaaDoorAb29
namespace Go.Proofs.YtlnjddjobbhcaaaDoor
open Go.Ab
set_option linter.unusedVariables false
set_option linter.unusedSimpArgs false
set_option maxRecDepth 20000
set_option maxHeartbeats 4000000
attribute [local irreducible] wOps wA wSeq wBlk wRound wRoundI wOpsD wOpsS

/-- The two halves of an integer. -/
def wd (v : Int) : List SV := [.int .u64 (v / 18446744073709551616 % 18446744073709551616), .int .u64 (v % 18446744073709551616)]
theorem wd_hi (v : Int) : 0 ≤ v / 18446744073709551616 % 18446744073709551616 ∧ v / 18446744073709551616 % 18446744073709551616 < 18446744073709551616 := by omega
theorem wd_add (v w : Int) : (v / 18446744073709551616 % 18446744073709551616 + w / 18446744073709551616 % 18446744073709551616 + (v % 18446744073709551616 + w % 18446744073709551616 + 0) / 18446744073709551616) % 18446744073709551616 = (v + w) / 18446744073709551616 % 18446744073709551616 := by
  have h : (v + w) / 18446744073709551616 = v / 18446744073709551616 + w / 18446744073709551616 + (v % 18446744073709551616 + w % 18446744073709551616 + 0) / 18446744073709551616 := by omega
  rw [h]
  generalize v / 18446744073709551616 = A
  generalize w / 18446744073709551616 = B
  generalize (v % 18446744073709551616 + w % 18446744073709551616 + 0) / 18446744073709551616 = C
  omega
theorem wd_neg (v : Int) : (0 + 18446744073709551616 - v / 18446744073709551616 % 18446744073709551616 - (if (0 : Int) < v % 18446744073709551616 + 0 then 1 else 0)) % 18446744073709551616 = (-v) / 18446744073709551616 % 18446744073709551616 := by
  have h : (-v) / 18446744073709551616 = -(v / 18446744073709551616) - (if (0 : Int) < v % 18446744073709551616 + 0 then 1 else 0) := by split <;> omega
  rw [h]
  generalize (if (0 : Int) < v % 18446744073709551616 + 0 then (1 : Int) else 0) = c
  generalize v / 18446744073709551616 = A
  omega
theorem call70 (h0 : Heap) (v : Int) (hv : -9223372036854775808 ≤ v ∧ v ≤ 9223372036854775807) : ∃ r h', Cal FT HKt 70 [.sc (.int .i64 v)] h0 r h' ∧ r = .sc (.int .u64 (v.natAbs : Int)) ∧ h' = h0 := by
  refine Cal.of (F := a70) rfl rfl rfl ?_
  by_cases h : v < 0
  · repeat' (first | refine w_seq ?_ | refine w_seqN ?_ | refine w_seqR ?_ | refine w_ret ?_ | refine w_ops ?_ | ((refine i_cond ?_); refine w_condT rfl ?_) | ((refine i_nil ?_); first | refine w_end1 rfl ?_ | refine w_end2 rfl rfl ?_) | ((refine i_cons ?_); first | (refine k_cvU rfl ?_) | (refine k_negU rfl ?_) | refine k_mv rfl ?_ | refine k_lssT rfl rfl (by omega) ?_))
    exact ⟨.inr rfl, by rw [show -(v % 18446744073709551616) % 18446744073709551616 = (v.natAbs : Int) by omega]; rfl, rfl⟩
  · repeat' (first | refine w_seq ?_ | refine w_seqN ?_ | refine w_skip ?_ | refine w_ret ?_ | refine w_ops ?_ | ((refine i_cond ?_); refine w_condF rfl ?_) | ((refine i_nil ?_); first | refine w_end1 rfl ?_ | refine w_end2 rfl rfl ?_) | ((refine i_cons ?_); first | (refine k_cvU rfl ?_) | refine k_mv rfl ?_ | refine k_lssF rfl rfl (by omega) ?_))
    exact ⟨.inr rfl, by rw [show v % 18446744073709551616 = (v.natAbs : Int) by omega]; rfl, rfl⟩
/-- The product of two halves of 32 bits. -/
theorem mul32 {a b : Int} (ha : 0 ≤ a ∧ a < 4294967296) (hb : 0 ≤ b ∧ b < 4294967296) : 0 ≤ a * b ∧ a * b ≤ 18446744065119617025 := by
  refine ⟨Int.mul_nonneg ha.1 hb.1, ?_⟩
  have h1 : a * b ≤ 4294967295 * b := Int.mul_le_mul_of_nonneg_right (by omega) hb.1
  omega
theorem mul_parts (a b : Int) : a * b = a / 4294967296 * (b / 4294967296) * 18446744073709551616 + (a / 4294967296 * (b % 4294967296) + a % 4294967296 * (b / 4294967296)) * 4294967296 + a % 4294967296 * (b % 4294967296) := by
  have ea : a = a / 4294967296 * 4294967296 + a % 4294967296 := by omega
  have eb : b = b / 4294967296 * 4294967296 + b % 4294967296 := by omega
  generalize a / 4294967296 = a1 at *
  generalize a % 4294967296 = a0 at *
  generalize b / 4294967296 = b1 at *
  generalize b % 4294967296 = b0 at *
  subst ea eb
  rw [Int.add_mul, Int.mul_add, Int.mul_add]
  have e1 : a1 * 4294967296 * (b1 * 4294967296) = a1 * b1 * 18446744073709551616 := by
    rw [Int.mul_assoc, Int.mul_left_comm 4294967296 b1, ← Int.mul_assoc]; omega
  have e2 : a1 * 4294967296 * b0 = a1 * b0 * 4294967296 := by rw [Int.mul_right_comm]
  have e3 : a0 * (b1 * 4294967296) = a0 * b1 * 4294967296 := by rw [Int.mul_assoc]
  rw [e1, e2, e3]; omega
theorem call73 (h0 : Heap) (a b : Int) (ha : 0 ≤ a ∧ a < 18446744073709551616) (hb : 0 ≤ b ∧ b < 18446744073709551616) :
    ∃ r h', Cal FT HKt 73 [.sc (.int .u64 a), .sc (.int .u64 b)] h0 r h' ∧ r = .tup [.sc (.int .u64 (a * b / 18446744073709551616)), .sc (.int .u64 (a * b % 18446744073709551616))] ∧ h' = h0 := by
  refine Cal.of (F := a73) rfl rfl rfl ?_
  have a0 : 0 ≤ a % (2 ^ 32 : Nat) ∧ a % (2 ^ 32 : Nat) < 4294967296 := by omega
  have a1 : 0 ≤ a / (2 ^ 32 : Nat) ∧ a / (2 ^ 32 : Nat) < 4294967296 := by omega
  have b0 : 0 ≤ b % (2 ^ 32 : Nat) ∧ b % (2 ^ 32 : Nat) < 4294967296 := by omega
  have b1 : 0 ≤ b / (2 ^ 32 : Nat) ∧ b / (2 ^ 32 : Nat) < 4294967296 := by omega
  have p00 := mul32 a0 b0
  have p10 := mul32 a1 b0
  have p01 := mul32 a0 b1
  have p11 := mul32 a1 b1
  have hm := mul_parts a b
  rw [show (4294967296 : Int) = (2 ^ 32 : Nat) by rfl] at hm
  have hab : 0 ≤ a * b := Int.mul_nonneg ha.1 hb.1
  have hab2 : a * b < 340282366920938463463374607431768211456 := by omega
  repeat' (first | refine w_seq ?_ | refine w_seqN ?_ | refine w_ret ?_ | refine w_ops ?_ | ((refine i_nil ?_); first | refine w_end2 rfl rfl ?_ | refine w_end3 rfl rfl rfl ?_ | refine w_end4 rfl rfl rfl rfl ?_ | refine w_end5 rfl rfl rfl rfl rfl ?_ | refine w_end6 rfl rfl rfl rfl rfl rfl ?_ | refine w_end7 rfl rfl rfl rfl rfl rfl rfl ?_) | ((refine i_cons ?_); first | (refine k_andU (q := 32) rfl rfl (by omega) (by omega) rfl ?_) | (refine k_shrU (q := 32) rfl rfl rfl (by omega) ?_) | (refine k_mulV rfl rfl (by omega) ?_) | (refine k_addV rfl rfl (by omega) ?_) | refine k_mulU rfl rfl ?_ | refine k_mv rfl ?_))
  refine ⟨.inr rfl, ?_, rfl⟩
  generalize a / (2 ^ 32 : Nat) * (b / (2 ^ 32 : Nat)) = q11 at *
  generalize a / (2 ^ 32 : Nat) * (b % (2 ^ 32 : Nat)) = q10 at *
  generalize a % (2 ^ 32 : Nat) * (b / (2 ^ 32 : Nat)) = q01 at *
  generalize a % (2 ^ 32 : Nat) * (b % (2 ^ 32 : Nat)) = q00 at *
  rw [show a * b / 18446744073709551616 = q11 + (q10 + q00 / (2 ^ 32 : Nat)) / (2 ^ 32 : Nat) + ((q10 + q00 / (2 ^ 32 : Nat)) % (2 ^ 32 : Nat) + q01) / (2 ^ 32 : Nat) by
    generalize a * b = m at *
    omega]
theorem call74 (h0 : Heap) (v : Int) : ∃ r h', Cal FT HKt 74 [.agg (wd v)] h0 r h' ∧ Ext h0 h' ∧ r = .agg (wd (-v)) := by
  refine Cal.of (F := a74) rfl rfl rfl ?_
  have hh := wd_hi v
  have hl : 0 ≤ v % 18446744073709551616 ∧ v % 18446744073709551616 < 18446744073709551616 := by omega
  have hc : (0 : Int) ≤ (if (0 : Int) < v % 18446744073709551616 + 0 then 1 else 0) ∧ (if (0 : Int) < v % 18446744073709551616 + 0 then 1 else 0) ≤ (1 : Int) := by split <;> omega
  unfold wd
  repeat' (first | refine w_seq ?_ | refine w_seqN ?_ | refine w_ret ?_ | refine w_ops ?_ | ((refine i_nil ?_); first | refine w_end1 rfl ?_ | refine w_end2 rfl rfl ?_ | refine w_end3 rfl rfl rfl ?_ | refine w_end4 rfl rfl rfl rfl ?_) | ((refine i_cons ?_); first | (have z := e1; refine k_newC ?_; intro h2 e2 c2; have d2 := c1.ext e2) | (refine k_boxC rfl ?_; intro h1 e1 c1) | refine k_ldC0 rfl d2 ?_ | refine k_ldC1 rfl d2 ?_ | (refine k_car1 rfl rfl rfl (by omega) ?_) | (refine k_bld rfl rfl ?_) | (refine k_stC rfl rfl c2 ?_; intro h3 w3) | refine k_mv rfl ?_ | refine k_ok rfl rfl ?_))
  refine ⟨.inr rfl, oK_cell rfl w3.cel.read ⟨w3.ext (e1.trans e2) e1.len, ?_⟩⟩
  rw [wd_neg, show (0 + 18446744073709551616 - v % 18446744073709551616 - 0) % 18446744073709551616 = (-v) % 18446744073709551616 by omega]
theorem call40 (h0 : Heap) (v w : Int) : ∃ r h', Cal FT HKt 40 [.agg (wd v), .agg (wd w)] h0 r h' ∧ Ext h0 h' ∧ r = .agg (wd (v + w)) := by
  refine Cal.of (F := a40) rfl rfl rfl ?_
  have hh := wd_hi v
  have hh2 := wd_hi w
  unfold wd
  repeat' (first | refine w_seq ?_ | refine w_seqN ?_ | refine w_ret ?_ | refine w_ops ?_ | ((refine i_nil ?_); first | refine w_end1 rfl ?_ | refine w_end3 rfl rfl rfl ?_ | refine w_end5 rfl rfl rfl rfl rfl ?_) | ((refine i_cons ?_); first | (have z := e2; refine k_newC ?_; intro h3 e3 c3; have d1 := (c1.ext e2).ext e3; have d2 := c2.ext e3) | (have z := e1; refine k_boxC rfl ?_; intro h2 e2 c2) | (refine k_boxC rfl ?_; intro h1 e1 c1) | refine k_ldC0 rfl d2 ?_ | refine k_ldC1 rfl d2 ?_ | refine k_ldC0 rfl d1 ?_ | refine k_ldC1 rfl d1 ?_ | (refine k_car0 rfl rfl rfl (by omega) ?_) | (refine k_bld rfl rfl ?_) | (refine k_stC rfl rfl c3 ?_; intro h4 w4) | refine k_mv rfl ?_ | refine k_ok rfl rfl ?_))
  refine ⟨.inr rfl, oK_cell rfl w4.cel.read ⟨w4.ext (e1.trans (e2.trans e3)) (Nat.le_trans e1.len e2.len), ?_⟩⟩
  rw [wd_add, show (v % 18446744073709551616 + w % 18446744073709551616 + 0) % 18446744073709551616 = (v + w) % 18446744073709551616 by omega]
end Go.Proofs.YtlnjddjobbhcaaaDoor


namespace Go.Proofs.YtlnjddjobbhcaaaDoor
open Go.Ab
set_option linter.unusedVariables false
set_option linter.unusedSimpArgs false
set_option maxRecDepth 20000
set_option maxHeartbeats 4000000
attribute [local irreducible] wOps wA wSeq wBlk wRound wRoundI wOpsD wOpsS

/-! ### The length in bits -/
def tab8 : ByteArray := ⟨#[0, 1, 2, 2, 3, 3, 3, 3, 4, 4, 4, 4, 4, 4, 4, 4, 5, 5, 5, 5, 5, 5, 5, 5, 5, 5, 5, 5, 5, 5, 5, 5, 6, 6, 6, 6, 6, 6, 6, 6, 6, 6, 6, 6, 6, 6, 6, 6, 6, 6, 6, 6, 6, 6, 6, 6, 6, 6, 6, 6, 6, 6, 6, 6, 7, 7, 7, 7, 7, 7, 7, 7, 7, 7, 7, 7, 7, 7, 7, 7, 7, 7, 7, 7, 7, 7, 7, 7, 7, 7, 7, 7, 7, 7, 7, 7, 7, 7, 7, 7, 7, 7, 7, 7, 7, 7, 7, 7, 7, 7, 7, 7, 7, 7, 7, 7, 7, 7, 7, 7, 7, 7, 7, 7, 7, 7, 7, 7, 8, 8, 8, 8, 8, 8, 8, 8, 8, 8, 8, 8, 8, 8, 8, 8, 8, 8, 8, 8, 8, 8, 8, 8, 8, 8, 8, 8, 8, 8, 8, 8, 8, 8, 8, 8, 8, 8, 8, 8, 8, 8, 8, 8, 8, 8, 8, 8, 8, 8, 8, 8, 8, 8, 8, 8, 8, 8, 8, 8, 8, 8, 8, 8, 8, 8, 8, 8, 8, 8, 8, 8, 8, 8, 8, 8, 8, 8, 8, 8, 8, 8, 8, 8, 8, 8, 8, 8, 8, 8, 8, 8, 8, 8, 8, 8, 8, 8, 8, 8, 8, 8, 8, 8, 8, 8, 8, 8, 8, 8, 8, 8, 8, 8, 8, 8, 8, 8, 8, 8, 8, 8, 8, 8, 8, 8, 8, 8]⟩
theorem len8 : ∀ x : Nat, x < 256 → ∃ b : UInt8, tab8[x]? = some b ∧ x < 2 ^ b.toNat ∧ (x = 0 ∨ 2 ^ b.toNat ≤ 2 * x) ∧ b.toNat ≤ 8 := by
  have key : ∀ x : Fin 256, (match tab8[x.val]? with
      | some b => decide (x.val < 2 ^ b.toNat) && (decide (x.val = 0) || decide (2 ^ b.toNat ≤ 2 * x.val)) && decide (b.toNat ≤ 8)
      | none => false) = true := by decide +kernel
  intro x hx
  have h := key ⟨x, hx⟩
  simp only at h
  split at h
  · rename_i b hb
    simp only [Bool.and_eq_true, Bool.or_eq_true, decide_eq_true_eq] at h
    exact ⟨b, hb, h.1.1, h.1.2, h.2⟩
  · cases h
theorem k_idxS {FT : FuncId → Option AFun} {HK : FuncId → Option Hook} {E : Env} {h : Heap} {K : Env → Heap → Prop} {d : Option Nat} {r : List AOp} {x i : AO} {s : ByteArray} {kd : IntKind} {j : Nat} {b : UInt8} (hx : evS E x = some (.str s)) (hi : evS E i = some (.int kd (j : Nat))) (hb : s[j]? = some b) (hw : wOps FT HK r (bindE d (some (.sc (.int .u8 (b.toNat : Nat)))) E) h K) :
    wOps FT HK (⟨d, .idxS x i, none⟩ :: r) E h K :=
  op_ok rfl rfl (by simp [step1, hx, hi, hb]) hw
/-- Bits of x: L. -/
def LenIs (x : Nat) (L : Nat) : Prop := x < 2 ^ L ∧ 2 ^ L ≤ 2 * x ∧ L ≤ 64
theorem lenIs_shift {x q b : Nat} (h1 : x / 2 ^ q < 2 ^ b) (h2 : 2 ^ b ≤ 2 * (x / 2 ^ q)) (hb : q + b ≤ 64) : LenIs x (q + b) := by
  have hp : 0 < 2 ^ q := Nat.pow_pos (by omega)
  refine ⟨?_, ?_, hb⟩
  · rw [Nat.pow_add, Nat.mul_comm]; exact (Nat.div_lt_iff_lt_mul hp).1 h1
  · rw [Nat.pow_add]
    have h3 : 2 ^ q * (x / 2 ^ q) ≤ x := Nat.mul_div_le x (2 ^ q)
    have h4 := Nat.mul_le_mul_left (2 ^ q) h2
    have h5 : 2 ^ q * (2 * (x / 2 ^ q)) = 2 * (2 ^ q * (x / 2 ^ q)) := by rw [Nat.mul_left_comm]
    omega
theorem call103 (h0 : Heap) (x : Nat) (hx : 0 < x ∧ x < 18446744073709551616) : ∃ r h', Cal FT HKt 103 [.sc (.int .u64 (x : Nat))] h0 r h' ∧ h' = h0 ∧ ∃ L : Nat, r = .sc (.int .i64 (L : Nat)) ∧ LenIs x L := by
  refine Cal.of (F := a103) rfl rfl rfl ?_
  have fin : ∀ (q y : Nat), y = x / 2 ^ q → 0 < y → y < 256 → q ≤ 56 → ∃ b : UInt8, tab8[y]? = some b ∧ b.toNat ≤ 8 ∧ LenIs x (q + b.toNat) := by
    intro q y hy h1 h2 h3
    obtain ⟨b, b1, b2, b3, b4⟩ := len8 y h2
    subst hy
    exact ⟨b, b1, b4, lenIs_shift b2 (by omega) (by omega)⟩
  have f := fun q (h1 : 0 < x / 2 ^ q) (h2 : x / 2 ^ q < 256) (h3 : q ≤ 56) => fin q _ rfl h1 h2 h3
  by_cases c1 : 4294967296 ≤ x
  · by_cases c2 : 281474976710656 ≤ x
    · by_cases c3 : 72057594037927936 ≤ x
      · obtain ⟨b, hb, hb8, hL⟩ := f 56 (by omega) (by omega) (by omega)
        have e1 : ((x : Nat) : Int) / (2 ^ 32 : Nat) / (2 ^ 16 : Nat) / (2 ^ 8 : Nat) = ((x / 2 ^ 56 : Nat) : Int) := by omega
        have e2 : x / 2 ^ 56 < 256 := by omega
        generalize x / 2 ^ 56 = y at *
        repeat' (first | refine w_seq ?_ | refine w_seqN ?_ | refine w_ret ?_ | refine w_ops ?_ | ((refine i_cond ?_); refine w_condT rfl ?_) | ((refine i_nil ?_); first | refine w_end1 rfl ?_ | refine w_end2 rfl rfl ?_ | refine w_end3 rfl rfl rfl ?_) | ((refine i_cons ?_); first | (refine k_shrU (q := 32) rfl rfl rfl (by omega) ?_) | (refine k_shrU (q := 16) rfl rfl rfl (by omega) ?_) | (refine k_shrU (q := 8) rfl rfl rfl (by omega) ?_; rw [e1]) | (refine k_cv8 rfl (by omega) ?_) | refine k_idxS rfl rfl hb ?_ | refine k_mv rfl ?_ | refine k_add rfl rfl (by omega) ?_ | refine k_conv rfl (by omega) ?_ | refine k_geqT rfl rfl (by omega) ?_))
        exact ⟨.inr rfl, rfl, _, by rw [show (32 : Int) + 16 + 8 + (b.toNat : Nat) = ((56 + b.toNat : Nat) : Int) by omega]; rfl, hL⟩
      · obtain ⟨b, hb, hb8, hL⟩ := f 48 (by omega) (by omega) (by omega)
        have e1 : ((x : Nat) : Int) / (2 ^ 32 : Nat) / (2 ^ 16 : Nat) = ((x / 2 ^ 48 : Nat) : Int) := by omega
        have e2 : x / 2 ^ 48 < 256 := by omega
        generalize x / 2 ^ 48 = y at *
        repeat' (first | refine w_seq ?_ | refine w_seqN ?_ | refine w_skip ?_ | refine w_ret ?_ | refine w_ops ?_ | ((refine i_cond ?_); first | refine w_condT rfl ?_ | refine w_condF rfl ?_) | ((refine i_nil ?_); first | refine w_end1 rfl ?_ | refine w_end2 rfl rfl ?_ | refine w_end3 rfl rfl rfl ?_) | ((refine i_cons ?_); first | (refine k_shrU (q := 32) rfl rfl rfl (by omega) ?_) | (refine k_shrU (q := 16) rfl rfl rfl (by omega) ?_; rw [e1]) | (refine k_cv8 rfl (by omega) ?_) | refine k_idxS rfl rfl hb ?_ | refine k_mv rfl ?_ | refine k_add rfl rfl (by omega) ?_ | refine k_conv rfl (by omega) ?_ | refine k_geqT rfl rfl (by omega) ?_ | refine k_geqF rfl rfl (by omega) ?_))
        exact ⟨.inr rfl, rfl, _, by rw [show (32 : Int) + 16 + (b.toNat : Nat) = ((48 + b.toNat : Nat) : Int) by omega]; rfl, hL⟩
    · by_cases c3 : 1099511627776 ≤ x
      · obtain ⟨b, hb, hb8, hL⟩ := f 40 (by omega) (by omega) (by omega)
        have e1 : ((x : Nat) : Int) / (2 ^ 32 : Nat) / (2 ^ 8 : Nat) = ((x / 2 ^ 40 : Nat) : Int) := by omega
        have e2 : x / 2 ^ 40 < 256 := by omega
        generalize x / 2 ^ 40 = y at *
        repeat' (first | refine w_seq ?_ | refine w_seqN ?_ | refine w_skip ?_ | refine w_ret ?_ | refine w_ops ?_ | ((refine i_cond ?_); first | refine w_condT rfl ?_ | refine w_condF rfl ?_) | ((refine i_nil ?_); first | refine w_end1 rfl ?_ | refine w_end2 rfl rfl ?_ | refine w_end3 rfl rfl rfl ?_) | ((refine i_cons ?_); first | (refine k_shrU (q := 32) rfl rfl rfl (by omega) ?_) | (refine k_shrU (q := 8) rfl rfl rfl (by omega) ?_; rw [e1]) | (refine k_cv8 rfl (by omega) ?_) | refine k_idxS rfl rfl hb ?_ | refine k_mv rfl ?_ | refine k_add rfl rfl (by omega) ?_ | refine k_conv rfl (by omega) ?_ | refine k_geqT rfl rfl (by omega) ?_ | refine k_geqF rfl rfl (by omega) ?_))
        exact ⟨.inr rfl, rfl, _, by rw [show (32 : Int) + 8 + (b.toNat : Nat) = ((40 + b.toNat : Nat) : Int) by omega]; rfl, hL⟩
      · obtain ⟨b, hb, hb8, hL⟩ := f 32 (by omega) (by omega) (by omega)
        have e1 : ((x : Nat) : Int) / (2 ^ 32 : Nat) = ((x / 2 ^ 32 : Nat) : Int) := by omega
        have e2 : x / 2 ^ 32 < 256 := by omega
        generalize x / 2 ^ 32 = y at *
        repeat' (first | refine w_seq ?_ | refine w_seqN ?_ | refine w_skip ?_ | refine w_ret ?_ | refine w_ops ?_ | ((refine i_cond ?_); first | refine w_condT rfl ?_ | refine w_condF rfl ?_) | ((refine i_nil ?_); first | refine w_end1 rfl ?_ | refine w_end2 rfl rfl ?_ | refine w_end3 rfl rfl rfl ?_) | ((refine i_cons ?_); first | (refine k_shrU (q := 32) rfl rfl rfl (by omega) ?_; rw [e1]) | (refine k_cv8 rfl (by omega) ?_) | refine k_idxS rfl rfl hb ?_ | refine k_mv rfl ?_ | refine k_add rfl rfl (by omega) ?_ | refine k_conv rfl (by omega) ?_ | refine k_geqT rfl rfl (by omega) ?_ | refine k_geqF rfl rfl (by omega) ?_))
        exact ⟨.inr rfl, rfl, _, by rw [show (32 : Int) + (b.toNat : Nat) = ((32 + b.toNat : Nat) : Int) by omega]; rfl, hL⟩
  · by_cases c2 : 65536 ≤ x
    · by_cases c3 : 16777216 ≤ x
      · obtain ⟨b, hb, hb8, hL⟩ := f 24 (by omega) (by omega) (by omega)
        have e1 : ((x : Nat) : Int) / (2 ^ 16 : Nat) / (2 ^ 8 : Nat) = ((x / 2 ^ 24 : Nat) : Int) := by omega
        have e2 : x / 2 ^ 24 < 256 := by omega
        generalize x / 2 ^ 24 = y at *
        repeat' (first | refine w_seq ?_ | refine w_seqN ?_ | refine w_skip ?_ | refine w_ret ?_ | refine w_ops ?_ | ((refine i_cond ?_); first | refine w_condT rfl ?_ | refine w_condF rfl ?_) | ((refine i_nil ?_); first | refine w_end1 rfl ?_ | refine w_end2 rfl rfl ?_ | refine w_end3 rfl rfl rfl ?_) | ((refine i_cons ?_); first | (refine k_shrU (q := 16) rfl rfl rfl (by omega) ?_) | (refine k_shrU (q := 8) rfl rfl rfl (by omega) ?_; rw [e1]) | (refine k_cv8 rfl (by omega) ?_) | refine k_idxS rfl rfl hb ?_ | refine k_mv rfl ?_ | refine k_add rfl rfl (by omega) ?_ | refine k_conv rfl (by omega) ?_ | refine k_geqT rfl rfl (by omega) ?_ | refine k_geqF rfl rfl (by omega) ?_))
        exact ⟨.inr rfl, rfl, _, by rw [show (0 : Int) + 16 + 8 + (b.toNat : Nat) = ((24 + b.toNat : Nat) : Int) by omega]; rfl, hL⟩
      · obtain ⟨b, hb, hb8, hL⟩ := f 16 (by omega) (by omega) (by omega)
        have e1 : ((x : Nat) : Int) / (2 ^ 16 : Nat) = ((x / 2 ^ 16 : Nat) : Int) := by omega
        have e2 : x / 2 ^ 16 < 256 := by omega
        generalize x / 2 ^ 16 = y at *
        repeat' (first | refine w_seq ?_ | refine w_seqN ?_ | refine w_skip ?_ | refine w_ret ?_ | refine w_ops ?_ | ((refine i_cond ?_); first | refine w_condT rfl ?_ | refine w_condF rfl ?_) | ((refine i_nil ?_); first | refine w_end1 rfl ?_ | refine w_end2 rfl rfl ?_ | refine w_end3 rfl rfl rfl ?_) | ((refine i_cons ?_); first | (refine k_shrU (q := 16) rfl rfl rfl (by omega) ?_; rw [e1]) | (refine k_cv8 rfl (by omega) ?_) | refine k_idxS rfl rfl hb ?_ | refine k_mv rfl ?_ | refine k_add rfl rfl (by omega) ?_ | refine k_conv rfl (by omega) ?_ | refine k_geqT rfl rfl (by omega) ?_ | refine k_geqF rfl rfl (by omega) ?_))
        exact ⟨.inr rfl, rfl, _, by rw [show (0 : Int) + 16 + (b.toNat : Nat) = ((16 + b.toNat : Nat) : Int) by omega]; rfl, hL⟩
    · by_cases c3 : 256 ≤ x
      · obtain ⟨b, hb, hb8, hL⟩ := f 8 (by omega) (by omega) (by omega)
        have e1 : ((x : Nat) : Int) / (2 ^ 8 : Nat) = ((x / 2 ^ 8 : Nat) : Int) := by omega
        have e2 : x / 2 ^ 8 < 256 := by omega
        generalize x / 2 ^ 8 = y at *
        repeat' (first | refine w_seq ?_ | refine w_seqN ?_ | refine w_skip ?_ | refine w_ret ?_ | refine w_ops ?_ | ((refine i_cond ?_); first | refine w_condT rfl ?_ | refine w_condF rfl ?_) | ((refine i_nil ?_); first | refine w_end1 rfl ?_ | refine w_end2 rfl rfl ?_ | refine w_end3 rfl rfl rfl ?_) | ((refine i_cons ?_); first | (refine k_shrU (q := 8) rfl rfl rfl (by omega) ?_; rw [e1]) | (refine k_cv8 rfl (by omega) ?_) | refine k_idxS rfl rfl hb ?_ | refine k_mv rfl ?_ | refine k_add rfl rfl (by omega) ?_ | refine k_conv rfl (by omega) ?_ | refine k_geqT rfl rfl (by omega) ?_ | refine k_geqF rfl rfl (by omega) ?_))
        exact ⟨.inr rfl, rfl, _, by rw [show (0 : Int) + 8 + (b.toNat : Nat) = ((8 + b.toNat : Nat) : Int) by omega]; rfl, hL⟩
      · obtain ⟨b, hb, hb8, hL⟩ := f 0 (by omega) (by omega) (by omega)
        rw [show x / 2 ^ 0 = x by omega] at hb
        repeat' (first | refine w_seq ?_ | refine w_seqN ?_ | refine w_skip ?_ | refine w_ret ?_ | refine w_ops ?_ | ((refine i_cond ?_); refine w_condF rfl ?_) | ((refine i_nil ?_); first | refine w_end1 rfl ?_ | refine w_end2 rfl rfl ?_ | refine w_end3 rfl rfl rfl ?_) | ((refine i_cons ?_); first | (refine k_cv8 rfl (by omega) ?_) | refine k_idxS rfl rfl hb ?_ | refine k_mv rfl ?_ | refine k_add rfl rfl (by omega) ?_ | refine k_conv rfl (by omega) ?_ | refine k_geqF rfl rfl (by omega) ?_))
        exact ⟨.inr rfl, rfl, _, by rw [show (0 : Int) + (b.toNat : Nat) = ((0 + b.toNat : Nat) : Int) by omega]; rfl, hL⟩
end Go.Proofs.YtlnjddjobbhcaaaDoor

