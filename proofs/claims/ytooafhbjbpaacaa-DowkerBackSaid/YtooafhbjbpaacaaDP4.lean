/- Over and under exchanged at some crossings of a Dowker code: plain. -/
import Derived.Test.YtooafhbjbpaacaaDP3
namespace Go.Proofs.Ytooafhbjbpaacaa
open Go.Ab
set_option linter.unusedVariables false

/-- The numbers at which T holds change their sign. -/
def flipL (T : Nat → Bool) (vs : List Int) : List Int := (List.range vs.length).map fun i => if T i then -(vs.getD i 0) else vs.getD i 0
theorem flip_len (T : Nat → Bool) (vs : List Int) : (flipL T vs).length = vs.length := by simp [flipL]
theorem flip_get (T : Nat → Bool) {vs : List Int} {i : Nat} (hi : i < vs.length) : (flipL T vs).getD i 0 = if T i then -(vs.getD i 0) else vs.getD i 0 := by
  simp [flipL, List.getD, hi]
theorem flip_abs (T : Nat → Bool) (vs : List Int) : (flipL T vs).map Int.natAbs = vs.map Int.natAbs := by
  refine List.ext_getElem? fun i => ?_
  rw [List.getElem?_map, List.getElem?_map]
  by_cases hi : i < vs.length
  · have h1 := flip_get T hi
    have l1 : i < (flipL T vs).length := by rw [flip_len]; exact hi
    rw [List.getElem?_eq_getElem l1, List.getElem?_eq_getElem hi]
    simp only [List.getD_eq_getElem?_getD, List.getElem?_eq_getElem l1, List.getElem?_eq_getElem hi, Option.getD_some] at h1
    rw [h1]
    simp only [Option.map_some]
    split <;> simp
  · rw [List.getElem?_eq_none (by rw [flip_len]; omega), List.getElem?_eq_none (by omega)]
theorem good_abs {vs ws : List Int} (h : ws.map Int.natAbs = vs.map Int.natAbs) (hg : Good vs) : Good ws := by
  have hl : ws.length = vs.length := by have := congrArg List.length h; simpa using this
  obtain ⟨h1, h2, h3, h4⟩ := hg
  refine ⟨by omega, by omega, fun x hx => ?_, by rw [h]; exact h4⟩
  have hm : x.natAbs ∈ vs.map Int.natAbs := by rw [← h]; exact List.mem_map.2 ⟨x, hx, rfl⟩
  obtain ⟨y, hy, e⟩ := List.mem_map.1 hm
  have := fit_mem.1 (h3 y hy)
  rw [hl]
  exact fit_mem.2 (by rw [← e]; exact this)
theorem good_flip (T : Nat → Bool) {vs : List Int} (hg : Good vs) : Good (flipL T vs) := good_abs (flip_abs T vs) hg
/-- The slots of these crossings, turned by one. -/
def rotS (T : Nat → Bool) (xs : List Int) (h : Nat) : Nat := if T (h / 4) then turnN h (if xs.getD (h / 4) 0 = -1 then 3 else 1) else h
theorem rot_div (T : Nat → Bool) (xs : List Int) (h : Nat) : rotS T xs h / 4 = h / 4 := by
  unfold rotS
  split
  · exact turn_div _ _
  · rfl
theorem ov_flip {v : Int} (hv : v ≠ 0) (i : Nat) : ovD (-v) i = unD v i ∧ unD (-v) i = ovD v i := by
  unfold ovD unD
  rw [Int.natAbs_neg]
  constructor <;> (split <;> split <;> first | rfl | omega)
section
variable {T : Nat → Bool} {vs xs : List Int}
theorem pass_flip (hg : Good vs) (hl : xs.length = vs.length) (hs : ∀ i, i < vs.length → Sgn (xs.getD i 0)) {k : Nat} (hk : k < 2 * vs.length) : oN (flipL T vs) (flipL T xs) k = rotS T xs (oN vs xs k) ∧ iN (flipL T vs) (flipL T xs) k = rotS T xs (iN vs xs k) := by
  obtain ⟨i, hi, h⟩ := pass_at (xs := xs) hg hk
  have hg' := good_flip T hg
  have hi' : i < (flipL T vs).length := by rw [flip_len]; exact hi
  obtain ⟨a1, a2⟩ := inD_at (xs := flipL T xs) hg' (Nat.le_refl _) i hi'
  obtain ⟨b1, b2⟩ := outD_at (xs := flipL T xs) hg' (Nat.le_refl _) i hi'
  rw [flip_get T hi] at a1 a2 b1 b2
  rw [flip_get T (show i < xs.length by omega)] at a2 b2
  have hv := (good_v hg hi).1
  obtain ⟨f1, f2⟩ := ov_flip (v := vs.getD i 0) (fun e => by rw [e] at hv; simp at hv) i
  have hsi := hs i hi
  have d4 : 4 * i / 4 = i ∧ (4 * i + 1) / 4 = i ∧ (4 * i + 2) / 4 = i ∧ (4 * i + 3) / 4 = i := by omega
  by_cases ht : T i = true
  · rw [if_pos ht] at a1 a2 b1 b2
    rw [if_pos ht] at a2 b2
    rw [f2] at a1 b1
    rw [f1] at a2 b2
    have rt : ∀ r, r < 4 → rotS T xs (4 * i + r) = 4 * i + (r + (if xs.getD i 0 = -1 then 3 else 1)) % 4 := fun r hr => by
      unfold rotS
      rw [show (4 * i + r) / 4 = i by omega, if_pos ht]
      unfold turnN
      split <;> omega
    have rt0 := rt 0 (by omega)
    rw [Nat.add_zero] at rt0
    rcases h with ⟨h1, h2, h3⟩ | ⟨h1, h2, h3⟩
    · rw [h2, h3, rt 2 (by omega), rt0]
      unfold oN iN
      rw [h1, a2, b2, Int.toNat_natCast, Int.toNat_natCast]
      unfold ivH ovH
      rcases hsi with e | e
      · rw [e, if_pos rfl, if_pos rfl, if_neg (by decide)]
        omega
      · rw [e]
        simp only [Int.neg_neg, if_pos]
        rw [if_neg (by decide), if_neg (by decide)]
        omega
    · rw [h2, h3]
      unfold oN iN
      rw [h1, a1, b1, Int.toNat_natCast, Int.toNat_natCast]
      unfold ivH ovH
      rcases hsi with e | e
      · rw [e, if_neg (by decide), if_neg (by decide), rt 1 (by omega), rt 3 (by omega), e, if_neg (by decide)]
        omega
      · rw [e, if_pos rfl, if_pos rfl, rt 1 (by omega), rt 3 (by omega), e, if_pos rfl]
        omega
  · rw [if_neg ht] at a1 a2 b1 b2
    rw [if_neg ht] at a2 b2
    have same : ∀ h, h / 4 = i → rotS T xs h = h := fun h e => by unfold rotS; rw [e, if_neg ht]
    rcases h with ⟨h1, h2, h3⟩ | ⟨h1, h2, h3⟩
    · rw [h2, h3, same _ d4.1, same _ d4.2.2.1]
      unfold oN iN
      rw [h1, a1, b1]
      exact ⟨rfl, rfl⟩
    · have e1 : ovH (xs.getD i 0) i / 4 = i := by unfold ovH; split <;> omega
      have e2 : ivH (xs.getD i 0) i / 4 = i := by unfold ivH; split <;> omega
      rw [h2, h3, same _ e1, same _ e2]
      unfold oN iN
      rw [h1, a2, b2]
      exact ⟨rfl, rfl⟩
theorem mtD_flip (hg : Good vs) (hl : xs.length = vs.length) (hV : PV xs (mtD vs xs) 0) : PV (flipL T xs) (mtD (flipL T vs) (flipL T xs)) 0 := by
  have hF := hV.1
  have hs : ∀ i, i < vs.length → Sgn (xs.getD i 0) := fun i hi => by
    have : xs[i]? = some (xs.getD i 0) := by simp [List.getD, show i < xs.length by omega]
    exact hF.sgn _ (List.mem_of_getElem? this)
  have hg' := good_flip T hg
  have hlen := mtD_len vs xs
  have hlen' := mtD_len (flipL T vs) (flipL T xs)
  rw [flip_len] at hlen'
  have sgn' : ∀ i, i < vs.length → Sgn ((flipL T xs).getD i 0) := fun i hi => by
    rw [flip_get T (by omega)]
    rcases hs i hi with e | e <;> rw [e] <;> split <;> first | exact .inl rfl | exact .inr rfl
  have sgn2 : ∀ i, i < (flipL T vs).length → Sgn ((flipL T xs).getD i 0) := fun i hi => sgn' i (by rw [flip_len] at hi; exact hi)
  have outE : ∀ h, h < 4 * vs.length → outB (flipL T xs) (rotS T xs h) = outB xs h := fun h hh => by
    obtain ⟨k, hk, e⟩ := half_of hg hs hh
    obtain ⟨p1, p2⟩ := pass_flip (T := T) hg hl hs hk
    have q1 := oN_out hg hs hk
    have q2 := oN_out hg' sgn2 (k := k) (by rw [flip_len]; exact hk)
    rw [p1, p2] at q2
    rcases e with e | e <;> rw [e] at q1 q2
    · rw [q1.1, q2.1]
    · rw [q1.2, q2.2]
  have mt : ∀ h, h < 4 * vs.length → mateN (mtD (flipL T vs) (flipL T xs)) (rotS T xs h) = rotS T xs (mateN (mtD vs xs) h) := fun h hh => by
    obtain ⟨k, hk, e⟩ := half_of hg hs hh
    rcases e with rfl | rfl
    · have hm : (k + 1) % (2 * vs.length) < 2 * vs.length := Nat.mod_lt _ (by omega)
      obtain ⟨a1, a2⟩ := mate_o hg hs hk
      obtain ⟨b1, b2⟩ := mate_o hg' sgn2 (k := k) (by rw [flip_len]; exact hk)
      rw [flip_len] at b1
      rw [← (pass_flip hg hl hs hk).1, b1, a1, (pass_flip hg hl hs hm).2]
    · -- the passage before
      obtain ⟨j, hj, hjk⟩ : ∃ j, j < 2 * vs.length ∧ (j + 1) % (2 * vs.length) = k := by
        by_cases h0 : k = 0
        · exact ⟨2 * vs.length - 1, by omega, by rw [h0, show 2 * vs.length - 1 + 1 = 2 * vs.length by omega, Nat.mod_self]⟩
        · exact ⟨k - 1, by omega, by rw [show k - 1 + 1 = k by omega, Nat.mod_eq_of_lt hk]⟩
      obtain ⟨a1, a2⟩ := mate_o hg hs hj
      obtain ⟨b1, b2⟩ := mate_o hg' sgn2 (k := j) (by rw [flip_len]; exact hj)
      rw [flip_len] at b2
      rw [hjk] at a2 b2
      rw [← (pass_flip hg hl hs hk).2, b2, a2, (pass_flip hg hl hs hj).1]
  have lt4 : ∀ h, h < 4 * vs.length → rotS T xs h < 4 * vs.length := fun h hh => by have := rot_div T xs h; omega
  have R : Cor 3 (rotS T xs) xs (mtD vs xs) (flipL T xs) (mtD (flipL T vs) (flipL T xs)) := by
    refine ⟨flip_len T xs, by omega, fun x hx => ?_, rot_div T xs, fun a b e => ?_, fun h hh => ?_, fun h => ?_, fun h hh => ?_, fun h hh => ?_⟩
    · obtain ⟨i, hi⟩ := List.mem_iff_getElem?.1 hx
      have h1 := (List.getElem?_eq_some_iff.1 hi).1
      rw [flip_len] at h1
      have := sgn' i (by omega)
      rwa [getD_at hi] at this
    · have h1 := congrArg (· / 4) e
      simp only [rot_div] at h1
      unfold rotS at e
      rw [h1] at e
      split at e
      · exact turn_inj4 e
      · exact e
    · have h4 : h < 4 * vs.length := by omega
      by_cases ht : T (h / 4) = true
      · by_cases hx : xs.getD (h / 4) 0 = -1
        · refine ⟨turnN h 1, by rw [hlen]; unfold turnN; omega, ?_⟩
          unfold rotS
          rw [turn_div, if_pos ht, if_pos hx]
          exact turn_turn (by decide)
        · refine ⟨turnN h 3, by rw [hlen]; unfold turnN; omega, ?_⟩
          unfold rotS
          rw [turn_div, if_pos ht, if_neg hx]
          exact turn_turn (by decide)
      · exact ⟨h, hh, by unfold rotS; rw [if_neg ht]⟩
    · unfold rotS
      rw [turn_div]
      split
      · unfold turnN; split <;> omega
      · rfl
    · rw [hlen] at hh
      have hl2 : rotS T xs h < (mtD (flipL T vs) (flipL T xs)).length := by rw [hlen']; exact lt4 h hh
      have h1 := mt h hh
      have h2 := (half_of hg hs hh)
      rw [← h1]
      -- an entry is what mateN says, as no entry is negative
      have hnn : 0 ≤ (mtD (flipL T vs) (flipL T xs)).getD (rotS T xs h) 0 := by
        obtain ⟨k, hk, e⟩ := half_of (vs := flipL T vs) (xs := flipL T xs) hg' sgn2 (h := rotS T xs h) (by rw [flip_len]; exact lt4 h hh)
        rcases e with e | e
        · have := (mtT_at hg' sgn2 (Nat.le_refl _) k hk).1
          rw [← e]
          unfold mtD
          rw [this]; omega
        · obtain ⟨j, hj, hjk⟩ : ∃ j, j < 2 * (flipL T vs).length ∧ (j + 1) % (2 * (flipL T vs).length) = k := by
            by_cases h0 : k = 0
            · exact ⟨2 * (flipL T vs).length - 1, by omega, by rw [h0, show 2 * (flipL T vs).length - 1 + 1 = 2 * (flipL T vs).length by omega, Nat.mod_self]⟩
            · exact ⟨k - 1, by omega, by rw [show k - 1 + 1 = k by omega, Nat.mod_eq_of_lt hk]⟩
          have := (mtT_at hg' sgn2 (Nat.le_refl _) j hj).2
          rw [hjk, e] at this
          unfold mtD
          rw [this]; omega
      rw [List.getD_eq_getElem?_getD, List.getElem?_eq_getElem hl2, Option.getD_some] at hnn
      unfold mateN
      rw [List.getD_eq_getElem?_getD, List.getElem?_eq_getElem hl2, Option.getD_some]
      congr 1
      omega
    · rw [hlen] at hh
      have hm : mateN (mtD vs xs) h < 4 * vs.length := by rw [← hlen]; exact (hF.mateg (by rw [hlen]; exact hh)).2.1
      rw [outE h hh, outE _ hm]
  exact R.pv3 hV
theorem flip_flip (T : Nat → Bool) (vs : List Int) : flipL T (flipL T vs) = vs := by
  refine List.ext_getElem? fun i => ?_
  by_cases hi : i < vs.length
  · have h1 := flip_get T hi
    have h2 := flip_get (vs := flipL T vs) T (i := i) (by rw [flip_len]; exact hi)
    rw [h1] at h2
    have l1 : i < (flipL T (flipL T vs)).length := by rw [flip_len, flip_len]; exact hi
    rw [List.getElem?_eq_getElem l1, List.getElem?_eq_getElem hi]
    simp only [List.getD_eq_getElem?_getD, List.getElem?_eq_getElem l1, List.getElem?_eq_getElem hi, Option.getD_some] at h2
    rw [h2]
    by_cases ht : T i = true
    · rw [if_pos ht, if_pos ht, Int.neg_neg]
    · rw [if_neg ht, if_neg ht]
  · rw [List.getElem?_eq_none (by rw [flip_len, flip_len]; omega), List.getElem?_eq_none (by omega)]
theorem flip_all {vs : List Int} : flipL (fun _ => true) vs = negL vs := by
  refine List.ext_getElem? fun i => ?_
  by_cases hi : i < vs.length
  · simp [flipL, negL, hi, List.getD]
  · rw [List.getElem?_eq_none (by rw [flip_len]; omega), List.getElem?_eq_none (by simp [negL]; omega)]
end
end Go.Proofs.Ytooafhbjbpaacaa
