/- Plain law: a cyclic form is cyclically reduced. -/
import Derived.Test.YtgmfjhmphiiifaaDoorP4
namespace Go.Proofs.YtgmfjhmphiiifaaDoor
open Go.Ab
set_option linter.unusedVariables false

theorem Adj.inner {z : List Int} (h : Adj z) : Adj (inner z) := fun j p q h1 h2 => by
  unfold Go.Proofs.YtgmfjhmphiiifaaDoor.inner at h1 h2
  rw [List.getElem?_take] at h1 h2
  split at h1 <;> split at h2
  · rw [List.getElem?_drop] at h1 h2
    exact h (1 + j) p q h1 (by rw [show 1 + j + 1 = 1 + (j + 1) by omega]; exact h2)
  · cases h2
  · cases h1
  · cases h1
theorem adj_core : ∀ (n : Nat) (z : List Int), z.length ≤ n → Adj z → Adj (core z) ∧ ¬ Ends (core z)
  | 0, z, h, hz => by
    have : ¬ Ends z := fun h' => by have := h'.1; omega
    rw [core_out this]
    exact ⟨hz, this⟩
  | n + 1, z, h, hz => by
    by_cases he : Ends z
    · rw [← core_in he]
      have := inner_len (st := z)
      exact adj_core n _ (by have := he.1; omega) hz.inner
    · rw [core_out he]
      exact ⟨hz, he⟩

/-- A rotation of a cyclically reduced word is one. -/
theorem turn_red {x y : List Int} (hx : Adj x) (he : ¬ Ends x) (h : RotEq x y) : Adj y ∧ ¬ Ends y := by
  obtain ⟨u, v, rfl, rfl⟩ := h
  by_cases hu : u.length = 0
  · have := List.eq_nil_of_length_eq_zero hu
    subst this
    simp at hx he ⊢
    exact ⟨hx, he⟩
  by_cases hv : v.length = 0
  · have := List.eq_nil_of_length_eq_zero hv
    subst this
    simp at hx he ⊢
    exact ⟨hx, he⟩
  have g1 : ∀ j, j < u.length → (u ++ v)[j]? = u[j]? := fun j hj => List.getElem?_append_left hj
  have g2 : ∀ j, (u ++ v)[u.length + j]? = v[j]? := fun j => by rw [List.getElem?_append_right (by omega)]; congr 1; omega
  have g3 : ∀ j, j < v.length → (v ++ u)[j]? = v[j]? := fun j hj => List.getElem?_append_left hj
  have g4 : ∀ j, (v ++ u)[v.length + j]? = u[j]? := fun j => by rw [List.getElem?_append_right (by omega)]; congr 1; omega
  constructor
  · intro j p q h1 h2
    by_cases c1 : j + 1 < v.length
    · rw [g3 _ (by omega)] at h1 h2
      exact hx (u.length + j) p q (by rw [g2]; exact h1) (by rw [show u.length + j + 1 = u.length + (j + 1) by omega, g2]; exact h2)
    · by_cases c2 : j < v.length
      · -- the seam: the last of v, the first of u
        rw [g3 _ c2] at h1
        rw [show j + 1 = v.length + 0 by omega, g4] at h2
        intro e
        refine he ⟨by simp; omega, ?_⟩
        have e1 : (u ++ v)[0]? = some q := by rw [g1 0 (by omega)]; exact h2
        have e2 : (u ++ v)[(u ++ v).length - 1]? = some p := by
          rw [List.length_append, show u.length + v.length - 1 = u.length + j by omega, g2]
          exact h1
        rw [e1, e2]
        show q = -p
        omega
      · obtain ⟨k, rfl⟩ : ∃ k, j = v.length + k := ⟨j - v.length, by omega⟩
        rw [g4] at h1
        rw [show v.length + k + 1 = v.length + (k + 1) by omega, g4] at h2
        have l2 := (List.getElem?_eq_some_iff.1 h2).1
        exact hx k p q (by rw [g1 _ (by omega)]; exact h1) (by rw [g1 _ (by omega)]; exact h2)
  · rintro ⟨e1, e2⟩
    obtain ⟨a, ha⟩ : ∃ a, v[0]? = some a := ⟨_, List.getElem?_eq_getElem (by omega)⟩
    obtain ⟨b, hb⟩ : ∃ b, u[u.length - 1]? = some b := ⟨_, List.getElem?_eq_getElem (by omega)⟩
    rw [g3 0 (by omega), ha] at e2
    rw [List.length_append, show v.length + u.length - 1 = v.length + (u.length - 1) by omega, g4, hb] at e2
    change a = -b at e2
    exact hx (u.length - 1) b a (by rw [g1 _ (by omega)]; exact hb) (by rw [show u.length - 1 + 1 = u.length + 0 by omega, g2]; exact ha) (by omega)

/-- The cyclic form: reduced, its own core. -/
theorem IsLeast.form {w r : List Int} (h : IsLeast (core (red w)) r) : red r = r ∧ ¬ Ends r ∧ core (red r) = r ∧ RotEq (core (red w)) r := by
  obtain ⟨h1, h2⟩ := adj_core _ (red w) (Nat.le_refl _) (adj_red w)
  have hr : RotEq (core (red w)) r := by
    by_cases h0 : (core (red w)).length = 0
    · rw [h.2 h0, List.eq_nil_of_length_eq_zero h0]
      exact RotEq.refl _
    · obtain ⟨p, hp, hrp, _⟩ := h.1 (by omega)
      rw [hrp]
      exact rot_rotEq p
  obtain ⟨h3, h4⟩ := turn_red h1 h2 hr
  exact ⟨h3.red, h4, by rw [h3.red, core_out h4], hr⟩

theorem cs_rot {x y : List Int} (h : RotEq x y) (j : Nat) : cs x j = cs y j := by
  obtain ⟨u, v, rfl, rfl⟩ := h
  rw [cs_app, cs_app]
  omega
end Go.Proofs.YtgmfjhmphiiifaaDoor
