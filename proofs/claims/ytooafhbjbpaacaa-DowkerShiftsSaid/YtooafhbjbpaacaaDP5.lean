/- The first signs of a code whose signs change: plain. -/
import Derived.Test.YtooafhbjbpaacaaDP4
import Derived.Test.YtooafhbjbpaacaaDP2
import Derived.Test.YtooafhbjbpaacaaD3
namespace Go.Proofs.Ytooafhbjbpaacaa
open Go.Ab
set_option linter.unusedVariables false

theorem cands_of : ∀ (r p : List Int), (∀ x ∈ r, Sgn x) → p ++ r ∈ cands p r.length
  | [], p, _ => by simp [cands]
  | x :: r, p, h => by
    have ih := cands_of r (p ++ [x]) fun y hy => h y (.tail _ hy)
    rw [List.append_assoc, List.singleton_append] at ih
    simp only [List.length_cons, cands, List.mem_append]
    rcases h x (.head _) with rfl | rfl
    · exact .inl ih
    · exact .inr ih
theorem cands_iff {n : Nat} {q : List Int} : q ∈ cands [] n ↔ q.length = n ∧ ∀ x ∈ q, Sgn x := by
  constructor
  · intro h
    obtain ⟨a, _, c⟩ := cands_mem h
    exact ⟨by simpa using a, fun x hx => (c x hx).elim (fun h => by simp at h) id⟩
  · rintro ⟨rfl, h⟩
    simpa using cands_of q [] h
theorem Sgn.neg {x : Int} (h : Sgn x) : Sgn (-x) := by
  rcases h with rfl | rfl
  · exact .inr rfl
  · exact .inl rfl
theorem cands_flip {n : Nat} {T : Nat → Bool} {q : List Int} (h : q ∈ cands [] n) : flipL T q ∈ cands [] n := by
  rw [cands_iff] at h ⊢
  refine ⟨by rw [flip_len]; exact h.1, fun x hx => ?_⟩
  unfold flipL at hx
  obtain ⟨i, hi, rfl⟩ := List.mem_map.1 hx
  have hi : i < q.length := List.mem_range.1 hi
  have hs : Sgn (q.getD i 0) := by
    rw [List.getD_eq_getElem?_getD, List.getElem?_eq_getElem hi]
    exact h.2 _ (List.getElem_mem hi)
  split
  · exact hs.neg
  · exact hs
/-- Whether a code can be drawn does not depend on which strands pass over. -/
theorem none_flip {vs : List Int} (hg : Good vs) (T : Nat → Bool) : (∀ q ∈ cands [] vs.length, ¬ Pd vs q) ↔ ∀ q ∈ cands [] (flipL T vs).length, ¬ Pd (flipL T vs) q := by
  rw [flip_len]
  constructor
  · intro h q hq hp
    have hl := (cands_iff.1 hq).1
    have := mtD_flip (T := T) (good_flip T hg) (by rw [flip_len]; exact hl) hp
    rw [flip_flip] at this
    exact h _ (cands_flip hq) this
  · intro h q hq hp
    have hl := (cands_iff.1 hq).1
    exact h _ (cands_flip hq) (mtD_flip (T := T) hg hl hp)
theorem negneg_ln {vs : List Int} : (negL vs).length = vs.length := by simp [negL]
theorem good_neg {vs : List Int} (hg : Good vs) : Good (negL vs) := by
  rw [← flip_all]; exact good_flip _ hg
theorem pd_neg1 {vs q : List Int} (hg : Good vs) (hl : q.length = vs.length) (hp : Pd vs q) : Pd (negL vs) q := by
  have h1 := mtD_flip (T := fun _ => true) hg hl hp
  rw [flip_all, flip_all] at h1
  have h2 := mtD_neg (vs := negL vs) (xs := negL q) (by rw [negneg_ln]; exact hg.1) (by rw [negneg_ln, negneg_ln]; exact hl) h1
  rw [negL_neg] at h2
  exact h2
theorem pd_neg {vs q : List Int} (hg : Good vs) (hl : q.length = vs.length) : Pd (negL vs) q ↔ Pd vs q := by
  refine ⟨fun h => ?_, pd_neg1 hg hl⟩
  have := pd_neg1 (good_neg hg) (by rw [negneg_ln]; exact hl) h
  rwa [negL_neg] at this
theorem first_neg {vs L : List Int} (hg : Good vs) (h : FirstIs (Pd vs) (cands [] vs.length) L) : FirstIs (Pd (negL vs)) (cands [] (negL vs).length) L := by
  rw [negneg_ln]
  obtain ⟨A, B, x, y, z⟩ := h
  have hm : ∀ q, q ∈ A ∨ q = L → q.length = vs.length := fun q hq => by
    refine (cands_iff.1 (?_ : q ∈ cands [] vs.length)).1
    rw [x]
    rcases hq with hq | rfl
    · exact List.mem_append_left _ hq
    · simp
  exact ⟨A, B, x, (pd_neg hg (hm L (.inr rfl))).2 y, fun a ha hp => z a ha ((pd_neg hg (hm a (.inl ha))).1 hp)⟩
end Go.Proofs.Ytooafhbjbpaacaa
