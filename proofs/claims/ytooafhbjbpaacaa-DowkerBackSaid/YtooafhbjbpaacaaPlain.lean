/- The plain law: both say the same. -/
import Derived.Test.YtooafhbjbpaacaaWalk
namespace Go.Proofs.Ytooafhbjbpaacaa
open Go.Ab
set_option linter.unusedVariables false

theorem fit_len : ∀ {ys T : List Nat}, ys.Nodup → (∀ y ∈ ys, y ∈ T) → ys.length ≤ T.length
  | [], _, _, _ => by simp
  | y :: ys, T, hn, hs => by
    have hy := hs y (by simp)
    have h1 : ∀ z ∈ ys, z ∈ T.erase y := fun z hz => by
      have hne : z ≠ y := fun he => by subst he; exact (List.nodup_cons.1 hn).1 hz
      exact (List.mem_erase_of_ne hne).2 (hs z (by simp [hz]))
    have h2 := fit_len (List.nodup_cons.1 hn).2 h1
    rw [List.length_erase_of_mem hy] at h2
    have := List.length_pos_of_mem hy
    simp; omega

def evens (n : Nat) : List Nat := (List.range n).map fun i => 2 * (i + 1)

theorem evens_len (n : Nat) : (evens n).length = n := by simp [evens]
theorem evens_mem {n v : Nat} : v ∈ evens n ↔ ∃ k, 1 ≤ k ∧ k ≤ n ∧ v = 2 * k := by
  simp only [evens, List.mem_map, List.mem_range]
  constructor
  · rintro ⟨i, h, rfl⟩; exact ⟨i + 1, by omega, by omega, rfl⟩
  · rintro ⟨k, h1, h2, rfl⟩; exact ⟨k - 1, by omega, by omega⟩
theorem evens_nodup (n : Nat) : (evens n).Nodup := by
  unfold evens List.Nodup
  rw [List.pairwise_map]
  exact List.Pairwise.imp (fun h => by omega) (List.nodup_range (n := n))

theorem pV_eq (k : Nat) (xs : List Int) : xs.countP (pV k) = (xs.map Int.natAbs).count (2 * k) := by
  rw [List.count_eq_countP, List.countP_map]
  congr 1
  funext x
  simp only [pV, Function.comp]
  by_cases h : x.natAbs = 2 * k
  · have h2 : x = ((2 * k : Nat) : Int) ∨ x = 0 - ((2 * k : Nat) : Int) := by omega
    rw [h]; rcases h2 with rfl | rfl <;> simp
  · have h1 : (x == ((2 * k : Nat) : Int)) = false := by rw [beq_eq_false_iff_ne]; omega
    have h2 : (x == 0 - ((2 * k : Nat) : Int)) = false := by rw [beq_eq_false_iff_ne]; omega
    rw [h1, h2]; simp [h]

theorem fit_mem {n : Nat} {x : Int} : Fit n x ↔ x.natAbs ∈ evens n := by
  rw [evens_mem]
  constructor
  · rintro ⟨h1, h2, h3, h4⟩
    have h5 : (2 : Int) ∣ x := Int.dvd_of_tmod_eq_zero h4
    exact ⟨x.natAbs / 2, by omega, by omega, by omega⟩
  · rintro ⟨k, h1, h2, h3⟩
    exact ⟨by omega, by omega, by omega, Int.tmod_eq_zero_of_dvd (by omega)⟩

theorem good_iff (xs : List Int) : Good xs ↔ RefGood xs := by
  have hall : (∀ x ∈ xs, Fit xs.length x) ↔ ∀ y ∈ xs.map Int.natAbs, y ∈ evens xs.length := by
    simp only [List.mem_map]
    constructor
    · rintro h y ⟨x, hx, rfl⟩; exact fit_mem.1 (h x hx)
    · exact fun h x hx => fit_mem.2 (h _ ⟨x, hx, rfl⟩)
  have hp : ∀ k, xs.countP (pV k) = (xs.map Int.natAbs).count (2 * k) := fun k => pV_eq k xs
  unfold Good RefGood
  simp only [hall, hp]
  have hlen : (xs.map Int.natAbs).length = xs.length := by simp
  generalize xs.map Int.natAbs = ys at *
  generalize xs.length = n at *
  have hT := evens_len n
  have hTn := evens_nodup n
  constructor
  · rintro ⟨h1, h2, h3, h4⟩
    refine ⟨h1, h2, fun k hk1 hk2 => ?_⟩
    rw [h4.count, if_pos]
    refine Classical.byContradiction fun hc => ?_
    have hm : 2 * k ∈ evens n := evens_mem.2 ⟨k, hk1, hk2, rfl⟩
    have h5 : ∀ y ∈ ys, y ∈ (evens n).erase (2 * k) := fun y hy => by
      have hne : y ≠ 2 * k := by rintro rfl; exact hc hy
      exact (List.mem_erase_of_ne hne).2 (h3 y hy)
    have h6 := fit_len h4 h5
    rw [List.length_erase_of_mem hm] at h6
    omega
  · rintro ⟨h1, h2, h3⟩
    have hsub : ∀ v ∈ evens n, v ∈ ys := fun v hv => by
      obtain ⟨k, hk1, hk2, rfl⟩ := evens_mem.1 hv
      exact List.count_pos_iff.1 (by rw [h3 k hk1 hk2]; omega)
    have hin : ∀ y ∈ ys, y ∈ evens n := fun y hy => Classical.byContradiction fun hc => by
      have h5 : ∀ v ∈ evens n, v ∈ ys.erase y := fun v hv => by
        have hne : v ≠ y := by rintro rfl; exact hc hv
        exact (List.mem_erase_of_ne hne).2 (hsub v hv)
      have h6 := fit_len hTn h5
      rw [List.length_erase_of_mem hy] at h6
      have := List.length_pos_of_mem hy
      omega
    refine ⟨h1, h2, hin, List.nodup_iff_count.2 fun a => ?_⟩
    by_cases ha : a ∈ ys
    · obtain ⟨k, hk1, hk2, rfl⟩ := evens_mem.1 (hin a ha)
      rw [h3 k hk1 hk2]; omega
    · rw [List.count_eq_zero_of_not_mem ha]; omega

end Go.Proofs.Ytooafhbjbpaacaa
