/- copyCheck; the hooks over which the wakening is reckoned. -/
import Derived.Test.YtofknpknogfijaaGreatDoorCode
import Derived.Test.YtofknpknogfijaaGreatDoorAb34
import Derived.WalkKit
import Derived.Laws.Externs
import Derived.Test.YtofknpknogfijaaGreatDoorAb32
import Derived.Test.YtofknpknogfijaaGreatDoorAb47
import Derived.Lib.TrailingZeros
import Derived.Test.YtofknpknogfijaaGreatDoorAb41
import Derived.Test.YtofknpknogfijaaGreatDoorAb29
namespace Go.Proofs.YtofknpknogfijaaGreatDoor
open Go.Ab Go.RowKit
set_option linter.unusedVariables false

theorem sizeB : (Tryz.prog.info? 77).map (·.size) = some 2 := by kernel_rfl
theorem liesB : liesAt Tryz.prog Tryz.prog.depth 77 (2 / Tryz.prog.cellsOf 77) 0 77 1 = true := by kernel_rfl

set_option maxRecDepth 100000 in
theorem cc_used (b : Nat) (w : World) (h0 : w.cell? ⟨b, 0, none⟩ = some (.pointer (some ⟨b, 0, none⟩))) :
    Calls Tryz.prog 78 #[.pointer (some ⟨b, 0, none⟩)] w fun e w' => e = .returned (.tuple #[]) ∧ w' = w := by
  obtain ⟨j, hj, hjs⟩ := Option.map_eq_some_iff.1 sizeB
  go_enter Tryz.func78, Tryz.ntmps78
  go_wp2
  rw [Lib.run_neq_ptr_same w _ Tryz.underlying74 hj]
  go_wp2
  go_end0
  exact ⟨rfl, rfl⟩

set_option maxHeartbeats 1000000 in
set_option maxRecDepth 100000 in
theorem cc_new (b : Nat) (w : World) (h0 : w.cell? ⟨b, 0, none⟩ = some (.pointer none)) (hsh : w.shape? b = some (77, 2)) (hfz : w.frozen? ⟨b, 0, none⟩ = false) :
    Calls Tryz.prog 78 #[.pointer (some ⟨b, 0, none⟩)] w fun e w' => e = .returned (.tuple #[]) ∧ w' = w.setCell ⟨b, 0, none⟩ (.pointer (some ⟨b, 0, none⟩)) := by
  obtain ⟨j, hj, hjs⟩ := Option.map_eq_some_iff.1 sizeB
  go_enter Tryz.func78, Tryz.ntmps78
  go_wp2
  rw [Lib.run_to_unsafe w ⟨b, 0, none⟩ Tryz.underlying74 Tryz.underlying165 hj (by rw [hjs]; decide) hsh (Nat.zero_lt_succ 1)]
  simp only [Result.andThen]
  rw [Oper.upon_value]
  go_wp2
  rw [run_callFunc_extern Tryz.func109 (by kernel_rfl) (by kernel_rfl) (by kernel_rfl) (e := Extern.AbiNoEscape.same) (by kernel_rfl)]
  rw [Lib.run_noEscape]
  simp only [Result.andThen]
  rw [Oper.upon_value]
  go_wp2
  rw [Lib.run_from_unsafe w ⟨b, 0, none⟩ Tryz.underlying165 Tryz.underlying74 hj hsh liesB]
  simp only [Result.andThen]
  rw [Oper.upon_value]
  go_wp2
  go_end0
  exact ⟨rfl, rfl⟩

def HK0 : FuncId → Option Hook := fun f => if f = 78 then some (ccHook 77) else none
theorem HK0_ok [Base] : HKok Tryz.prog HK0 := fun f g h => by
  unfold HK0 at h
  split at h
  · rename_i hf
    simp only [Option.some.injEq] at h
    subst hf h
    exact ccHook_ok (by kernel_rfl) cc_used cc_new
  · simp at h



end Go.Proofs.YtofknpknogfijaaGreatDoor


namespace Go.Proofs.YtofknpknogfijaaGreatDoor
open Go.Ab
set_option linter.unusedVariables false

class HB where
  b : Bool
def tzHook : Hook := fun args h => match args with
  | [.sc (.int .u64 a)] => if 0 ≤ a ∧ a < 18446744073709551616 then frc (Lib.ctz 64 a.toNat) fun r => some (.sc (.int .i64 (r : Nat)), h) else none
  | _ => none
def HKt [HB] : FuncId → Option Hook := fun f => if f = 43 then some itoaHook else if f = 138 then some tzHook else if f = 9 then (if HB.b then some (constHook (.sc (.bool true))) else none) else HK0 f
theorem tz_call [HB] {h : Heap} (n : Nat) (hn : n < 18446744073709551616) : ∃ v h', Cal FT HKt 138 [.sc (.int .u64 (n : Nat))] h v h' ∧ h' = h ∧ v = .sc (.int .i64 (Lib.ctz 64 n : Nat)) :=
  ⟨_, _, Cal.hook (g := tzHook) rfl (by simp only [tzHook]; rw [if_pos ⟨by omega, by omega⟩, frc_eq]; rfl), rfl, rfl⟩
theorem itoa_call [HB] {h : Heap} (n : Int) (hn : -9223372036854775808 ≤ n ∧ n ≤ 9223372036854775807) : ∃ v h', Cal FT HKt 43 [.sc (.int .i64 n)] h v h' ∧ h' = h ∧ v = .sc (tb (Lib.itoa n)) :=
  ⟨_, _, Cal.hook (g := itoaHook) rfl (by simp only [itoaHook]; rw [if_pos hn]), rfl, rfl⟩
theorem awake_callT (h : Heap) : ∃ v h', @Cal FT (@HKt ⟨true⟩) 9 [] h v h' ∧ v = .sc (.bool true) ∧ h' = h := ⟨_, _, @Cal.hook FT (@HKt ⟨true⟩) 9 (constHook (.sc (.bool true))) _ _ _ _ rfl rfl, rfl, rfl⟩
end Go.Proofs.YtofknpknogfijaaGreatDoor


namespace Go.Proofs.YtofknpknogfijaaGreatDoor
open Go.Ab
set_option linter.unusedVariables false
set_option maxRecDepth 20000
attribute [local irreducible] wOps wA wSeq wBlk wRound wOpsD
set_option linter.unusedSectionVars false
variable [HB]

abbrev bz : ESz := ⟨1, some 5⟩
abbrev BL (h0 h : Heap) (B : Nat) (bs : List UInt8) : Prop := Bld 77 bz h0 h B bs
abbrev BLS (h0 h : Heap) (B : Nat) (s : SV) (bs : List UInt8) : Prop := BldS 77 bz h0 h B s bs

theorem call44 (h0 h : Heap) (B : Nat) (bs : List UInt8) (hb : BL h0 h B bs) (hl : bs.length ≤ 1000000) :
    ∃ v h', Cal FT HKt 44 [.sc (.ptr B 0)] h v h' ∧ v = .sc (tb bs) ∧ Ext h0 h' := by
  refine Cal.of (F := a44) rfl rfl rfl ?_
  obtain ⟨p, s, g1, -, g2, g3, g4, g5⟩ := hb
  have r1 : readN h B (0 + 1) 1 = some [s] := by simp [readN, g1, cut]
  rcases OwnZ.text g3 (by omega) with ⟨rfl, rfl⟩ | ⟨id, cap, cs, q1, rfl, q2, q3, q4⟩
  · repeat' (first | refine w_seq ?_ | refine w_seqN ?_ | refine w_ret ?_ | refine w_ops ?_ | refine w_opsD ?_ | refine d_one ?_ | refine d_nil ?_ | ((refine i_nil ?_); first | refine d_same ?_ | refine w_end1 rfl ?_) | ((refine i_cons ?_); first | refine k_nilc rfl ?_ | refine k_fldA rfl ?_ | refine k_ld rfl r1 ?_ | refine k_usd0 rfl ?_ | refine k_len rfl rfl ?_ | refine k_ustr0 rfl rfl ?_ | refine k_mv rfl ?_))
    exact ⟨.inr rfl, rfl, g5⟩
  · have hp : 0 < bs.length := List.length_pos_iff.2 q1
    repeat' (first | refine w_seq ?_ | refine w_seqN ?_ | refine w_ret ?_ | refine w_ops ?_ | refine w_opsD ?_ | refine d_one ?_ | refine d_nil ?_ | ((refine i_nil ?_); first | refine d_same ?_ | refine d_ord ?_ | refine w_end1 rfl ?_) | ((refine i_cons ?_); first | refine k_nilc rfl ?_ | refine k_fldA rfl ?_ | refine k_ld rfl r1 ?_ | refine k_usd rfl hp ?_ | refine k_len rfl rfl ?_ | refine k_ustr rfl rfl q2 q3 (by omega) ?_ | refine k_mv rfl ?_))
    exact ⟨.inr rfl, rfl, g5.set q4 _⟩
end Go.Proofs.YtofknpknogfijaaGreatDoor




namespace Go.Proofs.YtofknpknogfijaaGreatDoor
open Go.Ab
set_option linter.unusedVariables false
set_option linter.unusedSimpArgs false
set_option maxRecDepth 20000
set_option maxHeartbeats 4000000
attribute [local irreducible] wOps wA wSeq wBlk wRound wRoundI wOpsD wOpsS
set_option linter.unusedSectionVars false
variable [HB]

/-- The two halves of an integer. -/
def wd (v : Int) : List SV := [.int .u64 (v / 18446744073709551616 % 18446744073709551616), .int .u64 (v % 18446744073709551616)]
/-- The product of two halves of 32 bits. -/
theorem mul32 {a b : Int} (ha : 0 ≤ a ∧ a < 4294967296) (hb : 0 ≤ b ∧ b < 4294967296) : 0 ≤ a * b ∧ a * b ≤ 18446744065119617025 := by
  refine ⟨Int.mul_nonneg ha.1 hb.1, ?_⟩
  have h1 : a * b ≤ 4294967295 * b := Int.mul_le_mul_of_nonneg_right (by omega) hb.1
  omega
theorem mul_parts (a b : Int) : a * b = a / 4294967296 * (b / 4294967296) * 18446744073709551616 + (a / 4294967296 * (b % 4294967296) + a % 4294967296 * (b / 4294967296)) * 4294967296 + a % 4294967296 * (b % 4294967296) := by
  have ea : a = a / 4294967296 * 4294967296 + a % 4294967296 := by omega
  have eb : b = b / 4294967296 * 4294967296 + b % 4294967296 := by omega
  generalize a / 4294967296 = a1 at *
  generalize a % 4294967296 = a0 at *
  generalize b / 4294967296 = b1 at *
  generalize b % 4294967296 = b0 at *
  subst ea eb
  rw [Int.add_mul, Int.mul_add, Int.mul_add]
  have e1 : a1 * 4294967296 * (b1 * 4294967296) = a1 * b1 * 18446744073709551616 := by
    rw [Int.mul_assoc, Int.mul_left_comm 4294967296 b1, ← Int.mul_assoc]; omega
  have e2 : a1 * 4294967296 * b0 = a1 * b0 * 4294967296 := by rw [Int.mul_right_comm]
  have e3 : a0 * (b1 * 4294967296) = a0 * b1 * 4294967296 := by rw [Int.mul_assoc]
  rw [e1, e2, e3]; omega
theorem call103 (h0 : Heap) (a b : Int) (ha : 0 ≤ a ∧ a < 18446744073709551616) (hb : 0 ≤ b ∧ b < 18446744073709551616) :
    ∃ r h', Cal FT HKt 103 [.sc (.int .u64 a), .sc (.int .u64 b)] h0 r h' ∧ r = .tup [.sc (.int .u64 (a * b / 18446744073709551616)), .sc (.int .u64 (a * b % 18446744073709551616))] ∧ h' = h0 := by
  refine Cal.of (F := a103) rfl rfl rfl ?_
  have a0 : 0 ≤ a % (2 ^ 32 : Nat) ∧ a % (2 ^ 32 : Nat) < 4294967296 := by omega
  have a1 : 0 ≤ a / (2 ^ 32 : Nat) ∧ a / (2 ^ 32 : Nat) < 4294967296 := by omega
  have b0 : 0 ≤ b % (2 ^ 32 : Nat) ∧ b % (2 ^ 32 : Nat) < 4294967296 := by omega
  have b1 : 0 ≤ b / (2 ^ 32 : Nat) ∧ b / (2 ^ 32 : Nat) < 4294967296 := by omega
  have p00 := mul32 a0 b0
  have p10 := mul32 a1 b0
  have p01 := mul32 a0 b1
  have p11 := mul32 a1 b1
  have hm := mul_parts a b
  rw [show (4294967296 : Int) = (2 ^ 32 : Nat) by rfl] at hm
  have hab : 0 ≤ a * b := Int.mul_nonneg ha.1 hb.1
  have hab2 : a * b < 340282366920938463463374607431768211456 := by omega
  repeat' (first | refine w_seq ?_ | refine w_seqN ?_ | refine w_ret ?_ | refine w_ops ?_ | ((refine i_nil ?_); first | refine w_end2 rfl rfl ?_ | refine w_end3 rfl rfl rfl ?_ | refine w_end4 rfl rfl rfl rfl ?_ | refine w_end5 rfl rfl rfl rfl rfl ?_ | refine w_end6 rfl rfl rfl rfl rfl rfl ?_ | refine w_end7 rfl rfl rfl rfl rfl rfl rfl ?_) | ((refine i_cons ?_); first | (refine k_andU (q := 32) rfl rfl (by omega) (by omega) rfl ?_) | (refine k_shrU (q := 32) rfl rfl rfl (by omega) ?_) | (refine k_mulV rfl rfl (by omega) ?_) | (refine k_addV rfl rfl (by omega) ?_) | refine k_mulU rfl rfl ?_ | refine k_mv rfl ?_))
  refine ⟨.inr rfl, ?_, rfl⟩
  generalize a / (2 ^ 32 : Nat) * (b / (2 ^ 32 : Nat)) = q11 at *
  generalize a / (2 ^ 32 : Nat) * (b % (2 ^ 32 : Nat)) = q10 at *
  generalize a % (2 ^ 32 : Nat) * (b / (2 ^ 32 : Nat)) = q01 at *
  generalize a % (2 ^ 32 : Nat) * (b % (2 ^ 32 : Nat)) = q00 at *
  rw [show a * b / 18446744073709551616 = q11 + (q10 + q00 / (2 ^ 32 : Nat)) / (2 ^ 32 : Nat) + ((q10 + q00 / (2 ^ 32 : Nat)) % (2 ^ 32 : Nat) + q01) / (2 ^ 32 : Nat) by
    generalize a * b = m at *
    omega]
end Go.Proofs.YtofknpknogfijaaGreatDoor

