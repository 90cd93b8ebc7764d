/- PlanarRenames, plainly: splitting as the library does, numerals, other labels. -/
import Derived.Test.YtehnalbdfnmphaaDoorRP2
import Derived.Lib.ItoaNum
import Derived.Lib.Split
import Derived.Lib.SplitLaws
import Derived.Lib.Join
import Derived.Lib.AtoiAll
import Derived.Lib.AtoiAllCases
namespace Go.Proofs.YtehnalbdfnmphaaDoor
open Go.Lib
set_option linter.unusedVariables false
set_option linter.unusedSectionVars false

/-! ### Numerals -/
def dgt (c : UInt8) : Prop := 48 ≤ c.toNat ∧ c.toNat ≤ 57
theorem dgt_of {k : Nat} (h : k < 10) : dgt (UInt8.ofNat (48 + k)) ∧ (UInt8.ofNat (48 + k)).toNat = 48 + k := by
  have : (UInt8.ofNat (48 + k)).toNat = 48 + k := by rw [UInt8.toNat_ofNat']; omega
  exact ⟨by unfold dgt; omega, this⟩
theorem dec_dgt (u : Nat) : ∀ c ∈ decDigits u, dgt c := by
  rw [decDigits_eq]
  intro c hc
  obtain ⟨t, ht, rfl⟩ := List.mem_map.1 hc
  unfold dg
  exact (dgt_of (Nat.mod_lt _ (by decide))).1
theorem dec_ne (u : Nat) : decDigits u ≠ [] := fun h => by
  have := decDigits_length u
  rw [h] at this
  have := nDigits_pos u
  simp at *; omega
/-- The digits of a number, read again. -/
theorem parse_app : ∀ (l m : List UInt8) (acc u : Nat), parseUint10 acc l = .ok u → parseUint10 acc (l ++ m) = parseUint10 u m
  | [], m, acc, u, h => by
    simp only [parseUint10] at h
    injection h with h
    subst h; rfl
  | c :: r, m, acc, u, h => by
    simp only [parseUint10, List.cons_append] at h ⊢
    split at h
    · rename_i h1
      rw [if_pos h1]
      split at h
      · cases h
      · rename_i h2
        rw [if_neg h2]
        split at h
        · cases h
        · rename_i h3
          rw [if_neg h3]
          exact parse_app r m _ u h
    · cases h
theorem parse_dec (u : Nat) (hu : u < 9223372036854775808) : parseUint10 0 (decDigits u) = .ok u := by
  induction u using Nat.strongRecOn with
  | _ u ih =>
    by_cases h : u < 10
    · rw [decDigits_one h]
      obtain ⟨h1, h2⟩ := dgt_of h
      unfold dgt at h1
      simp only [parseUint10]
      rw [if_pos h1, if_neg (by omega), if_neg (by omega), h2]
      congr 1; omega
    · rw [decDigits, dif_neg h, parse_app _ _ _ _ (ih (u / 10) (by omega) (by omega))]
      obtain ⟨h1, h2⟩ := dgt_of (Nat.mod_lt u (by decide : 0 < 10))
      unfold dgt at h1
      simp only [parseUint10]
      rw [if_pos h1, if_neg (by omega), if_neg (by omega), h2]
      congr 1; omega
theorem atoi_dec (u : Nat) (hu : u < 9223372036854775808) : atoiAll (decDigits u) = .ok (u : Int) := by
  have h1 := parse_dec u hu
  have h2 := dec_dgt u
  have h3 := dec_ne u
  cases hd : decDigits u with
  | nil => exact absurd hd h3
  | cons c r =>
    rw [hd] at h1 h2
    have hc := h2 c (by simp)
    unfold dgt at hc
    rw [atoiAll_plain c r (by omega) (by omega)]
    unfold parseMag
    rw [if_neg (by simp), h1]
    unfold signless
    simp only
    rw [if_neg (by omega)]
theorem itoa_nat {x : Int} (h : 0 ≤ x) : itoa x = decDigits x.toNat := by
  unfold itoa; rw [if_neg (by omega)]
theorem atoi_itoa {x : Int} (h0 : 0 ≤ x) (h1 : x ≤ 9223372036854775807) : atoiAll (itoa x) = .ok x := by
  rw [itoa_nat h0, atoi_dec _ (by omega)]
  congr 1; omega

end Go.Proofs.YtehnalbdfnmphaaDoor
namespace Go.Proofs.YtehnalbdfnmphaaDoor
open Go.Ab
set_option linter.unusedVariables false
set_option linter.unusedSectionVars false
/-- Where the first c stands. -/
theorem idx_spl (c : UInt8) (s : List UInt8) : (c ∉ s ∧ Lib.index s [c] = -1) ∨ ∃ w r, s = w ++ c :: r ∧ c ∉ w ∧ Lib.index s [c] = (w.length : Nat) := by
  rcases Lib.index_spec s [c] with ⟨h1, h2⟩ | ⟨i, h1, h2, h3, h4⟩
  · refine .inl ⟨fun hm => ?_, h1⟩
    obtain ⟨j, hj⟩ := List.mem_iff_getElem?.1 hm
    have := (List.getElem?_eq_some_iff.1 hj).1
    have h3 := h2 j (by omega)
    rw [(occ_one s c j).2 hj] at h3
    cases h3
  · have hi := (occ_one s c i).1 h3
    have hl := (List.getElem?_eq_some_iff.1 hi).1
    have hc : c ∉ s.take i := fun hm => by
      obtain ⟨j, hj⟩ := List.mem_iff_getElem?.1 hm
      rw [List.getElem?_take] at hj
      split at hj
      · rename_i hji
        have h5 := h4 j hji
        rw [(occ_one s c j).2 hj] at h5
        cases h5
      · cases hj
    have hs : s = s.take i ++ c :: s.drop (i + 1) := by
      have h6 := List.take_append_drop i s
      rw [List.drop_eq_getElem_cons hl, (List.getElem?_eq_some_iff.1 hi).2] at h6
      exact h6.symm
    exact .inr ⟨s.take i, s.drop (i + 1), hs, hc, by rw [h1, List.length_take, Nat.min_eq_left h2]⟩
theorem lib_spl (c : UInt8) : ∀ (n : Nat) (s : List UInt8), s.length ≤ n → Lib.split s [c] = spl c s := by
  intro n
  induction n with
  | zero =>
    intro s hs
    have : s = [] := List.eq_nil_of_length_eq_zero (by omega)
    subst this
    unfold Lib.split
    rw [Lib.count_one]
    rfl
  | succ n ih =>
    intro s hs
    rcases idx_spl c s with ⟨h1, h2⟩ | ⟨w, r, rfl, h1, h2⟩
    · unfold Lib.split
      rw [Lib.count_one, List.count_eq_zero.2 h1, spl_no h1]
      rfl
    · have hr := ih r (by simp at hs; omega)
      unfold Lib.split at hr ⊢
      rw [Lib.count_one] at hr ⊢
      have hcn : (w ++ c :: r).count c = r.count c + 1 := by
        rw [List.count_append, List.count_eq_zero.2 h1, List.count_cons_self]; omega
      rw [hcn, spl_app h1]
      unfold Lib.splitK
      rw [if_neg (by rw [h2]; simp), h2, Int.toNat_natCast, Nat.add_zero, List.take_left]
      have hd : (w ++ c :: r).drop (w.length + ([c] : List UInt8).length) = r := by
        rw [← List.drop_drop, List.drop_left]; rfl
      rw [hd, hr]

/-! ### Other labels -/
/-- The labels, renamed. -/
def renL (k m : Int) (lb : List Int) : List Int := lb.map fun v => 9999 - k * v - m
theorem renL_at {k m : Int} {lb : List Int} {g : Nat} (hg : g < lb.length) : (renL k m lb).getD g 0 = 9999 - k * lb.getD g 0 - m := by
  simp [renL, List.getD, hg]
section
variable {xs ms : List Int} {l k m : Int} (hF : Front xs ms l) (hk : 1 ≤ k ∧ k ≤ 70) (hm : 0 ≤ m ∧ m ≤ 255)
include hF hk hm
theorem ren_len : (renL k m (labs xs ms)).length = 4 * xs.length := by
  have : (labs xs ms).length = ms.length := lbK_len _ _ _
  simp [renL, this, hF.four]
theorem ren_mul {g : Nat} (hg : g < ms.length) : 1 ≤ k * (labs xs ms).getD g 0 ∧ k * (labs xs ms).getD g 0 ≤ 8960 := by
  obtain ⟨h1, h2⟩ := labs_range hF hg
  have a1 : 1 * 1 ≤ k * (labs xs ms).getD g 0 := Int.mul_le_mul hk.1 h1 (by omega) (by omega)
  have a2 : k * (labs xs ms).getD g 0 ≤ 70 * 128 := Int.mul_le_mul hk.2 h2 (by omega) (by omega)
  omega
theorem ren_R : LabR (renL k m (labs xs ms)) (4 * xs.length) := fun g hg => by
  have hll : (labs xs ms).length = ms.length := lbK_len _ _ _
  have hg' : g < ms.length := by rw [hF.four]; exact hg
  obtain ⟨a1, a2⟩ := ren_mul hF hk hm hg'
  rw [renL_at (by omega)]
  omega
theorem ren_ok : LabOK ms (renL k m (labs xs ms)) := by
  intro g h hg hh
  have hll : (labs xs ms).length = ms.length := lbK_len _ _ _
  rw [renL_at (by omega), renL_at (by omega), ← labs_ok hF g h hg hh]
  constructor
  · intro e
    have e2 : k * (labs xs ms).getD g 0 = k * (labs xs ms).getD h 0 := by omega
    exact Int.eq_of_mul_eq_mul_left (by omega) e2
  · intro e
    rw [e]
end
end Go.Proofs.YtehnalbdfnmphaaDoor
