/- The binary form of a diagram: plain. -/
import Derived.Test.YtehnalbdfnmphaaDoorQ1
import Derived.Test.YtehnalbdfnmphaaDoorAb38
namespace Go.Proofs.YtehnalbdfnmphaaDoor
open Go.Ab
set_option linter.unusedVariables false

/-- The first k signs of byte b. -/
def bs (xs : List Int) (b : Nat) : Nat → Nat
  | 0 => 0
  | k + 1 => bs xs b k + if xs.getD (8 * b + k) 0 = 1 then 2 ^ k else 0
theorem bs_lt (xs : List Int) (b : Nat) : ∀ k, bs xs b k < 2 ^ k
  | 0 => by simp [bs]
  | k + 1 => by
    have := bs_lt xs b k
    rw [bs, Nat.pow_succ]
    split <;> omega
theorem bs_lt8 (xs : List Int) (b : Nat) {k : Nat} (hk : k ≤ 8) : bs xs b k < 256 :=
  Nat.lt_of_lt_of_le (bs_lt xs b k) (Nat.le_trans (Nat.pow_le_pow_right (by omega) hk) (by decide))
theorem bs_end {xs : List Int} {b k : Nat} (hk : xs.length ≤ 8 * b + k) : ∀ j, bs xs b (k + j) = bs xs b k
  | 0 => rfl
  | j + 1 => by
    rw [show k + (j + 1) = (k + j) + 1 by omega, bs, bs_end hk j]
    have : xs.getD (8 * b + (k + j)) 0 = 0 := by simp [List.getD, show xs.length ≤ 8 * b + (k + j) by omega]
    rw [this]; simp

/-- The bytes of the numbers and of the first c signs. -/
def encA (xs : List Int) (l c : Nat) : List Nat := [xs.length, l] ++ (List.range ((xs.length + 7) / 8)).map fun j => bs xs j (min 8 (c - 8 * j))
theorem encA_len (xs : List Int) (l c : Nat) : (encA xs l c).length = 2 + (xs.length + 7) / 8 := by simp [encA]; omega
theorem encA_zero (xs : List Int) (l : Nat) : ((List.replicate (2 + (xs.length + 7) / 8) 0).set 0 xs.length).set 1 l = encA xs l 0 := by
  unfold encA
  rw [show 2 + (xs.length + 7) / 8 = ((xs.length + 7) / 8) + 1 + 1 by omega, List.replicate_succ, List.replicate_succ, List.set_cons_zero, List.set_cons_succ, List.set_cons_zero]
  simp only [List.cons_append, List.nil_append, List.cons.injEq, true_and]
  refine List.ext_getElem? fun j => ?_
  by_cases hj : j < (xs.length + 7) / 8
  · simp [hj, bs]
  · simp [hj]
theorem encA_get {xs : List Int} {l c : Nat} (hc : c < xs.length) : (encA xs l c)[2 + c / 8]? = some (bs xs (c / 8) (c % 8)) := by
  unfold encA
  rw [List.getElem?_append_right (by simp), List.getElem?_map]
  simp only [List.length_cons, List.length_nil]
  rw [show 2 + c / 8 - (0 + 1 + 1) = c / 8 by omega, List.getElem?_range (by omega)]
  simp only [Option.map_some, Option.some.injEq]
  congr 1
  omega
theorem encA_skip {xs : List Int} {l c : Nat} (hc : c < xs.length) (hx : xs.getD c 0 ≠ 1) : encA xs l (c + 1) = encA xs l c := by
  unfold encA
  congr 1
  refine List.map_congr_left fun j hj => ?_
  by_cases h : c / 8 = j
  · subst h
    rw [show min 8 (c + 1 - 8 * (c / 8)) = c % 8 + 1 by omega, show min 8 (c - 8 * (c / 8)) = c % 8 by omega, bs]
    rw [show 8 * (c / 8) + c % 8 = c by omega, if_neg hx, Nat.add_zero]
  · congr 1
    omega
theorem encA_next {xs : List Int} {l c : Nat} (hc : c < xs.length) (hx : xs.getD c 0 = 1) : (encA xs l c).set (2 + c / 8) (bs xs (c / 8) (c % 8) + 2 ^ (c % 8)) = encA xs l (c + 1) := by
  unfold encA
  rw [List.set_append_right _ _ (by simp)]
  congr 1
  simp only [List.length_cons, List.length_nil]
  rw [show 2 + c / 8 - (0 + 1 + 1) = c / 8 by omega]
  refine List.ext_getElem? fun j => ?_
  rw [List.getElem?_set]
  split
  · rename_i h
    subst h
    have hl : c / 8 < (xs.length + 7) / 8 := by omega
    simp only [List.length_map, List.length_range, hl, if_true, List.getElem?_map, List.getElem?_range hl, Option.map_some]
    rw [show min 8 (c + 1 - 8 * (c / 8)) = c % 8 + 1 by omega, bs, show 8 * (c / 8) + c % 8 = c by omega, if_pos hx]
  · rename_i h
    by_cases hj : j < (xs.length + 7) / 8
    · simp only [List.getElem?_map, List.getElem?_range hj, Option.map_some]
      rw [show min 8 (c - 8 * j) = min 8 (c + 1 - 8 * j) by omega]
    · simp [hj]
theorem encA_done (xs : List Int) (l : Nat) : encA xs l xs.length = [xs.length, l] ++ (List.range ((xs.length + 7) / 8)).map fun j => bs xs j 8 := by
  unfold encA
  congr 1
  refine List.map_congr_left fun j hj => ?_
  by_cases h : 8 ≤ xs.length - 8 * j
  · rw [Nat.min_eq_left h]
  · have h2 := bs_end (xs := xs) (b := j) (k := xs.length - 8 * j) (by omega) (8 - (xs.length - 8 * j))
    rw [show xs.length - 8 * j + (8 - (xs.length - 8 * j)) = 8 by omega] at h2
    rw [Nat.min_eq_right (by omega), h2]

/-- Where the outgoing half-edges below h lead. -/
def tg (xs ms : List Int) (h : Nat) : List Nat := ((List.range h).filter (outB xs)).map (mateN ms)
theorem tg_succ (xs ms : List Int) (h : Nat) : tg xs ms (h + 1) = tg xs ms h ++ if outB xs h = true then [mateN ms h] else [] := by
  unfold tg
  rw [List.range_succ, List.filter_append, List.map_append]
  congr 1
  by_cases ho : outB xs h = true <;> simp [ho]
theorem tg_le (xs ms : List Int) (h : Nat) : (tg xs ms h).length ≤ h := by
  unfold tg
  rw [List.length_map]
  exact Nat.le_trans (List.length_filter_le _ _) (by simp)
/-- The binary form. -/
def encL (xs ms : List Int) (l : Nat) : List Nat := encA xs l xs.length ++ tg xs ms ms.length
theorem encL_pos (xs ms : List Int) (l : Nat) : 0 < (encL xs ms l).length := by simp [encL, encA]
theorem encL_small {xs ms : List Int} {l : Int} (hF : Front xs ms l) : ∀ x ∈ encL xs ms l.toNat, x < 256 := by
  intro x hx
  have h1 := hF.n64
  have h2 := hF.l64
  have h3 := hF.four
  unfold encL at hx
  rw [encA_done] at hx
  simp only [List.mem_append, List.mem_cons, List.not_mem_nil, or_false, List.mem_map, List.mem_range] at hx
  rcases hx with ((rfl | rfl) | ⟨j, hj, rfl⟩) | hx
  · omega
  · omega
  · exact bs_lt8 xs j (Nat.le_refl 8)
  · unfold tg at hx
    simp only [List.mem_map, List.mem_filter, List.mem_range] at hx
    obtain ⟨h, ⟨hh, -⟩, rfl⟩ := hx
    have := hF.fits.mate h hh
    omega

end Go.Proofs.YtehnalbdfnmphaaDoor
