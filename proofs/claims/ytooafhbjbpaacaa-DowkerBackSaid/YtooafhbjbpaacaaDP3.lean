/- The passages of a Dowker code, and the mates of its half-edges: plain. -/
import Derived.Test.YtooafhbjbpaacaaDP2
namespace Go.Proofs.Ytooafhbjbpaacaa
open Go.Ab
set_option linter.unusedVariables false

/-- The half-edges of the passage k. -/
def oN (vs xs : List Int) (k : Nat) : Nat := ((outD vs xs vs.length).getD k 0).toNat
def iN (vs xs : List Int) (k : Nat) : Nat := ((inD vs xs vs.length).getD k 0).toNat
def ovH (x : Int) (i : Nat) : Nat := if x = -1 then 4 * i + 3 else 4 * i + 1
def ivH (x : Int) (i : Nat) : Nat := if x = -1 then 4 * i + 1 else 4 * i + 3
section
variable {vs xs : List Int}
theorem good_v (hg : Good vs) {i : Nat} (hi : i < vs.length) : 2 ≤ (vs.getD i 0).natAbs ∧ (vs.getD i 0).natAbs ≤ 2 * vs.length ∧ (vs.getD i 0).natAbs % 2 = 0 := by
  obtain ⟨h1, h2, h3, h4⟩ := hg
  have hx : vs[i]? = some (vs.getD i 0) := by simp [List.getD, hi]
  obtain ⟨k, g1, g2, g3⟩ := evens_mem.1 (fit_mem.1 (h3 _ (List.mem_of_getElem? hx)))
  omega
theorem good_inj (hg : Good vs) {i j : Nat} (hi : i < vs.length) (hj : j < vs.length) (h : (vs.getD i 0).natAbs = (vs.getD j 0).natAbs) : i = j := by
  obtain ⟨h1, h2, h3, h4⟩ := hg
  refine (List.getElem?_inj (l := vs.map Int.natAbs) (by simpa using hi) h4).1 ?_
  rw [List.getElem?_map, List.getElem?_map]
  have a : vs[i]? = some (vs.getD i 0) := by simp [List.getD, hi]
  have b : vs[j]? = some (vs.getD j 0) := by simp [List.getD, hj]
  rw [a, b, Option.map_some, Option.map_some, h]
theorem good_sur (hg : Good vs) {k : Nat} (hk : 1 ≤ k ∧ k ≤ vs.length) : ∃ i, i < vs.length ∧ (vs.getD i 0).natAbs = 2 * k := by
  have h1 := ((good_iff vs).1 hg).2.2 k hk.1 hk.2
  rw [pV_eq] at h1
  have hm : 2 * k ∈ vs.map Int.natAbs := by
    rw [← List.count_pos_iff, h1]; exact Nat.one_pos
  obtain ⟨i, hi⟩ := List.mem_iff_getElem?.1 hm
  rw [List.getElem?_map, Option.map_eq_some_iff] at hi
  obtain ⟨x, h2, h3⟩ := hi
  exact ⟨i, (List.getElem?_eq_some_iff.1 h2).1, by simp [List.getD, h2, h3]⟩
theorem ov_lt (hg : Good vs) {i : Nat} (hi : i < vs.length) : ovD (vs.getD i 0) i < 2 * vs.length ∧ unD (vs.getD i 0) i < 2 * vs.length ∧ ovD (vs.getD i 0) i ≠ unD (vs.getD i 0) i := by
  have := good_v hg hi
  unfold ovD unD
  split <;> omega
theorem ov_ne (hg : Good vs) {i j : Nat} (hi : i < vs.length) (hj : j < vs.length) (h : i ≠ j) : ovD (vs.getD i 0) i ≠ ovD (vs.getD j 0) j ∧ ovD (vs.getD i 0) i ≠ unD (vs.getD j 0) j ∧ unD (vs.getD i 0) i ≠ ovD (vs.getD j 0) j ∧ unD (vs.getD i 0) i ≠ unD (vs.getD j 0) j := by
  have a := good_v hg hi
  have b := good_v hg hj
  have c : (vs.getD i 0).natAbs ≠ (vs.getD j 0).natAbs := fun e => h (good_inj hg hi hj e)
  unfold ovD unD
  split <;> split <;> omega
/-- Each passage is one of a crossing. -/
theorem pass_of (hg : Good vs) {k : Nat} (hk : k < 2 * vs.length) : ∃ i, i < vs.length ∧ (k = ovD (vs.getD i 0) i ∨ k = unD (vs.getD i 0) i) := by
  by_cases he : k % 2 = 0
  · refine ⟨k / 2, by omega, ?_⟩
    unfold ovD unD
    split <;> omega
  · obtain ⟨i, h1, h2⟩ := good_sur hg (k := (k + 1) / 2) (by omega)
    refine ⟨i, h1, ?_⟩
    unfold ovD unD
    split <;> omega
theorem getD_set2 {L : List Int} {a b : Nat} {x y : Int} (ha : a < L.length) (hb : b < L.length) (k : Nat) : ((L.set a x).set b y).getD k 0 = if k = b then y else if k = a then x else L.getD k 0 := by
  rw [getD_set (by rw [List.length_set]; exact hb), getD_set ha]
theorem inD_at (hg : Good vs) : ∀ {j}, j ≤ vs.length → ∀ i, i < j → (inD vs xs j).getD (unD (vs.getD i 0) i) 0 = ((4 * i : Nat) : Int) ∧ (inD vs xs j).getD (ovD (vs.getD i 0) i) 0 = ((ivH (xs.getD i 0) i : Nat) : Int)
  | 0, _, i, hi => absurd hi (by omega)
  | j + 1, hj, i, hi => by
    obtain ⟨a1, a2, a3⟩ := ov_lt hg (i := j) (by omega)
    have hl := inD_len vs xs j
    rw [inD, getD_set2 (by omega) (by omega), getD_set2 (by omega) (by omega)]
    by_cases e : i = j
    · subst e
      rw [if_neg (Ne.symm a3), if_pos rfl, if_pos rfl]
      refine ⟨rfl, ?_⟩
      unfold ivH
      split <;> rfl
    · obtain ⟨b1, b2, b3, b4⟩ := ov_ne hg (i := i) (j := j) (by omega) (by omega) e
      rw [if_neg b3, if_neg b4, if_neg b1, if_neg b2]
      exact inD_at hg (by omega) i (by omega)
theorem outD_at (hg : Good vs) : ∀ {j}, j ≤ vs.length → ∀ i, i < j → (outD vs xs j).getD (unD (vs.getD i 0) i) 0 = ((4 * i + 2 : Nat) : Int) ∧ (outD vs xs j).getD (ovD (vs.getD i 0) i) 0 = ((ovH (xs.getD i 0) i : Nat) : Int)
  | 0, _, i, hi => absurd hi (by omega)
  | j + 1, hj, i, hi => by
    obtain ⟨a1, a2, a3⟩ := ov_lt hg (i := j) (by omega)
    have hl := outD_len vs xs j
    rw [outD, getD_set2 (by omega) (by omega), getD_set2 (by omega) (by omega)]
    by_cases e : i = j
    · subst e
      rw [if_neg (Ne.symm a3), if_pos rfl, if_pos rfl]
      refine ⟨rfl, ?_⟩
      unfold ovH
      split <;> rfl
    · obtain ⟨b1, b2, b3, b4⟩ := ov_ne hg (i := i) (j := j) (by omega) (by omega) e
      rw [if_neg b3, if_neg b4, if_neg b1, if_neg b2]
      exact outD_at hg (by omega) i (by omega)
/-- What a passage is. -/
theorem pass_at (hg : Good vs) {k : Nat} (hk : k < 2 * vs.length) : ∃ i, i < vs.length ∧ ((k = unD (vs.getD i 0) i ∧ oN vs xs k = 4 * i + 2 ∧ iN vs xs k = 4 * i) ∨ (k = ovD (vs.getD i 0) i ∧ oN vs xs k = ovH (xs.getD i 0) i ∧ iN vs xs k = ivH (xs.getD i 0) i)) := by
  obtain ⟨i, hi, hk2⟩ := pass_of hg hk
  obtain ⟨a1, a2⟩ := inD_at (xs := xs) hg (Nat.le_refl _) i hi
  obtain ⟨b1, b2⟩ := outD_at (xs := xs) hg (Nat.le_refl _) i hi
  refine ⟨i, hi, ?_⟩
  unfold oN iN
  rcases hk2 with rfl | rfl
  · rw [a2, b2]; exact .inr ⟨rfl, rfl, rfl⟩
  · rw [a1, b1]; exact .inl ⟨rfl, rfl, rfl⟩
theorem oN_lt (hg : Good vs) {k : Nat} (hk : k < 2 * vs.length) : oN vs xs k < 4 * vs.length ∧ iN vs xs k < 4 * vs.length := by
  obtain ⟨i, hi, h | h⟩ := pass_at (xs := xs) hg hk
  · omega
  · unfold ovH ivH at h
    split at h <;> omega
theorem oN_iN (hg : Good vs) {k : Nat} (hk : k < 2 * vs.length) : turnN (oN vs xs k) 2 = iN vs xs k ∧ turnN (iN vs xs k) 2 = oN vs xs k := by
  obtain ⟨i, hi, h | h⟩ := pass_at (xs := xs) hg hk
  · unfold turnN; omega
  · unfold ovH ivH at h
    unfold turnN
    split at h <;> omega
theorem oN_inj (hg : Good vs) {j k : Nat} (hj : j < 2 * vs.length) (hk : k < 2 * vs.length) (h : oN vs xs j = oN vs xs k) : j = k := by
  obtain ⟨a, ha, h1⟩ := pass_at (xs := xs) hg hj
  obtain ⟨b, hb, h2⟩ := pass_at (xs := xs) hg hk
  have e : a = b := by
    unfold ovH at h1 h2
    split at h1 <;> split at h2 <;> omega
  subst e
  rcases h1 with ⟨h1, h3, _⟩ | ⟨h1, h3, _⟩ <;> rcases h2 with ⟨h2, h4, _⟩ | ⟨h2, h4, _⟩
  · rw [h1, h2]
  · unfold ovH at h4
    split at h4 <;> omega
  · unfold ovH at h3
    split at h3 <;> omega
  · rw [h1, h2]
theorem iN_inj (hg : Good vs) {j k : Nat} (hj : j < 2 * vs.length) (hk : k < 2 * vs.length) (h : iN vs xs j = iN vs xs k) : j = k := by
  refine oN_inj (xs := xs) hg hj hk ?_
  rw [← (oN_iN hg hj).2, ← (oN_iN hg hk).2, h]
theorem oN_out (hg : Good vs) (hs : ∀ i, i < vs.length → Sgn (xs.getD i 0)) {k : Nat} (hk : k < 2 * vs.length) : outB xs (oN vs xs k) = true ∧ outB xs (iN vs xs k) = false := by
  obtain ⟨i, hi, h⟩ := pass_at (xs := xs) hg hk
  have d1 : (4 * i + 1) / 4 = i ∧ (4 * i + 2) / 4 = i ∧ (4 * i + 3) / 4 = i ∧ 4 * i / 4 = i := by omega
  have d2 : (4 * i + 1) % 4 = 1 ∧ (4 * i + 2) % 4 = 2 ∧ (4 * i + 3) % 4 = 3 ∧ 4 * i % 4 = 0 := by omega
  rcases h with ⟨_, h1, h2⟩ | ⟨_, h1, h2⟩
  · rw [h1, h2]
    unfold outB
    rw [d2.2.1, d2.2.2.2]
    exact ⟨by simp, by simp⟩
  · rw [h1, h2]
    unfold ovH ivH outB
    rcases hs i hi with h3 | h3
    · rw [h3, if_neg (by decide), if_neg (by decide), d1.1, d1.2.2.1, d2.1, d2.2.2.1, h3]
      exact ⟨by decide, by decide⟩
    · rw [h3, if_pos rfl, if_pos rfl, d1.1, d1.2.2.1, d2.1, d2.2.2.1, h3]
      exact ⟨by decide, by decide⟩
theorem oi_ne (hg : Good vs) (hs : ∀ i, i < vs.length → Sgn (xs.getD i 0)) {j k : Nat} (hj : j < 2 * vs.length) (hk : k < 2 * vs.length) : oN vs xs j ≠ iN vs xs k := fun e => by
  have h1 := (oN_out hg hs hj).1
  have h2 := (oN_out hg hs hk).2
  rw [e, h2] at h1; cases h1
/-- Each half-edge is one of a passage. -/
theorem half_of (hg : Good vs) (hs : ∀ i, i < vs.length → Sgn (xs.getD i 0)) {h : Nat} (hh : h < 4 * vs.length) : ∃ k, k < 2 * vs.length ∧ (oN vs xs k = h ∨ iN vs xs k = h) := by
  have hi : h / 4 < vs.length := by omega
  obtain ⟨a1, a2, a3⟩ := ov_lt hg hi
  obtain ⟨b1, b2⟩ := inD_at (xs := xs) hg (Nat.le_refl _) _ hi
  obtain ⟨c1, c2⟩ := outD_at (xs := xs) hg (Nat.le_refl _) _ hi
  have e1 : oN vs xs (unD (vs.getD (h / 4) 0) (h / 4)) = 4 * (h / 4) + 2 := by unfold oN; rw [c1]; rfl
  have e2 : iN vs xs (unD (vs.getD (h / 4) 0) (h / 4)) = 4 * (h / 4) := by unfold iN; rw [b1]; rfl
  have e3 : oN vs xs (ovD (vs.getD (h / 4) 0) (h / 4)) = ovH (xs.getD (h / 4) 0) (h / 4) := by unfold oN; rw [c2]; rfl
  have e4 : iN vs xs (ovD (vs.getD (h / 4) 0) (h / 4)) = ivH (xs.getD (h / 4) 0) (h / 4) := by unfold iN; rw [b2]; rfl
  have h4 : h % 4 = 0 ∨ h % 4 = 1 ∨ h % 4 = 2 ∨ h % 4 = 3 := by omega
  unfold ovH at e3
  unfold ivH at e4
  rcases h4 with h1 | h1 | h1 | h1
  · exact ⟨_, a2, .inr (by omega)⟩
  · split at e3 <;> split at e4
    · exact ⟨_, a1, .inr (by omega)⟩
    · contradiction
    · contradiction
    · exact ⟨_, a1, .inl (by omega)⟩
  · exact ⟨_, a2, .inl (by omega)⟩
  · split at e3 <;> split at e4
    · exact ⟨_, a1, .inl (by omega)⟩
    · contradiction
    · contradiction
    · exact ⟨_, a1, .inr (by omega)⟩
/-- The mates of a passage's ends. -/
theorem mtT_at (hg : Good vs) (hs : ∀ i, i < vs.length → Sgn (xs.getD i 0)) : ∀ {j}, j ≤ 2 * vs.length → ∀ k, k < j →
    (mtT vs.length (inD vs xs vs.length) (outD vs xs vs.length) j).getD (oN vs xs k) 0 = ((iN vs xs ((k + 1) % (2 * vs.length)) : Nat) : Int) ∧ (mtT vs.length (inD vs xs vs.length) (outD vs xs vs.length) j).getD (iN vs xs ((k + 1) % (2 * vs.length))) 0 = ((oN vs xs k : Nat) : Int)
  | 0, _, k, hk => absurd hk (by omega)
  | j + 1, hj, k, hk => by
    have hml := mtT_len vs.length (inD vs xs vs.length) (outD vs xs vs.length) j
    have hmj : (j + 1) % (2 * vs.length) < 2 * vs.length := Nat.mod_lt _ (by omega)
    have hmk : (k + 1) % (2 * vs.length) < 2 * vs.length := Nat.mod_lt _ (by omega)
    have l1 := (oN_lt (xs := xs) hg (k := j) (by omega)).1
    have l2 := (oN_lt (xs := xs) hg hmj).2
    have r1 : (outD vs xs vs.length).getD j 0 = ((oN vs xs j : Nat) : Int) := by
      obtain ⟨i, hi, h⟩ := pass_of hg (k := j) (by omega)
      obtain ⟨c1, c2⟩ := outD_at (xs := xs) hg (Nat.le_refl _) i hi
      unfold oN
      rcases h with rfl | rfl
      · rw [c2, Int.toNat_natCast]
      · rw [c1, Int.toNat_natCast]
    have r2 : (inD vs xs vs.length).getD ((j + 1) % (2 * vs.length)) 0 = ((iN vs xs ((j + 1) % (2 * vs.length)) : Nat) : Int) := by
      obtain ⟨i, hi, h⟩ := pass_of hg hmj
      obtain ⟨c1, c2⟩ := inD_at (xs := xs) hg (Nat.le_refl _) i hi
      unfold iN
      rcases h with h | h <;> rw [h]
      · rw [c2, Int.toNat_natCast]
      · rw [c1, Int.toNat_natCast]
    rw [mtT, r1, r2]
    simp only [Int.toNat_natCast]
    rw [getD_set2 (by omega) (by omega), getD_set2 (by omega) (by omega)]
    have n1 : oN vs xs k ≠ iN vs xs ((j + 1) % (2 * vs.length)) := oi_ne hg hs (by omega) hmj
    have n2 : iN vs xs ((k + 1) % (2 * vs.length)) ≠ oN vs xs j := fun e => oi_ne hg hs (show j < 2 * vs.length by omega) hmk e.symm
    rw [if_neg n1]
    by_cases e : k = j
    · subst e
      rw [if_pos rfl, if_pos rfl]
      exact ⟨rfl, rfl⟩
    · have n3 : oN vs xs k ≠ oN vs xs j := fun h => e (oN_inj hg (by omega) (by omega) h)
      have n4 : iN vs xs ((k + 1) % (2 * vs.length)) ≠ iN vs xs ((j + 1) % (2 * vs.length)) := fun h => by
        have h1 := iN_inj hg hmk hmj h
        rw [Nat.mod_eq_of_lt (show k + 1 < 2 * vs.length by omega)] at h1
        by_cases h2 : j + 1 = 2 * vs.length
        · rw [h2, Nat.mod_self] at h1; omega
        · rw [Nat.mod_eq_of_lt (by omega)] at h1; omega
      rw [if_neg n3, if_neg n4, if_neg n2]
      exact mtT_at hg hs (by omega) k (by omega)
theorem mate_o (hg : Good vs) (hs : ∀ i, i < vs.length → Sgn (xs.getD i 0)) {k : Nat} (hk : k < 2 * vs.length) : mateN (mtD vs xs) (oN vs xs k) = iN vs xs ((k + 1) % (2 * vs.length)) ∧ mateN (mtD vs xs) (iN vs xs ((k + 1) % (2 * vs.length))) = oN vs xs k := by
  obtain ⟨h1, h2⟩ := mtT_at hg hs (Nat.le_refl _) k hk
  unfold mateN mtD
  rw [h1, h2]
  exact ⟨rfl, rfl⟩
end
end Go.Proofs.Ytooafhbjbpaacaa
