/- Plain law: conjugates have one core, up to rotation. -/
import Derived.Test.YtgmfjhmphiiifaaDoorR5
import Derived.Test.YtgmfjhmphiiifaaDoorE2
namespace Go.Proofs.YtgmfjhmphiiifaaDoor
open Go.Ab
set_option linter.unusedVariables false

/-- No letter stands before its inverse. -/
def Adj (z : List Int) : Prop := ∀ (j : Nat) (p q : Int), z[j]? = some p → z[j + 1]? = some q → p ≠ -q
theorem Adj.red {z : List Int} (h : Adj z) : red z = z := noAdj_red z fun j _ p q h1 h2 => h j p q h1 h2
theorem adj_red (w : List Int) : Adj (red w) := fun j p q h1 h2 => red_adj w h1 h2
theorem Adj.tail {a : Int} {z : List Int} (h : Adj (a :: z)) : Adj z := fun j p q h1 h2 => h (j + 1) p q (by simpa using h1) (by simpa using h2)
theorem Adj.init {a : Int} {z : List Int} (h : Adj (z ++ [a])) : Adj z := fun j p q h1 h2 => by
  have l2 := (List.getElem?_eq_some_iff.1 h2).1
  exact h j p q (by rw [List.getElem?_append_left (by omega)]; exact h1) (by rw [List.getElem?_append_left (by omega)]; exact h2)
theorem Adj.cons {a : Int} {z : List Int} (h : Adj z) (h0 : ∀ b, z[0]? = some b → a ≠ -b) : Adj (a :: z) := fun j p q h1 h2 => by
  cases j with
  | zero =>
    simp at h1 h2
    subst h1
    exact h0 q (by simpa using h2)
  | succ j => exact h j p q (by simpa using h1) (by simpa using h2)
theorem Adj.snoc {a : Int} {z : List Int} (h : Adj z) (h0 : ∀ b, z[z.length - 1]? = some b → b ≠ -a) : Adj (z ++ [a]) := fun j p q h1 h2 => by
  by_cases hj : j + 1 < z.length
  · rw [List.getElem?_append_left (by omega)] at h1 h2
    exact h j p q h1 h2
  · have l2 := (List.getElem?_eq_some_iff.1 h2).1
    simp at l2
    have hj2 : j = z.length - 1 := by omega
    have hz : 0 < z.length ∨ z.length = 0 := by omega
    rcases hz with hz | hz
    · rw [List.getElem?_append_left (by omega)] at h1
      rw [List.getElem?_append_right (by omega), show j + 1 - z.length = 0 by omega] at h2
      simp at h2
      subst h2
      exact h0 p (by rw [← hj2]; exact h1)
    · omega

/-- One is a rotation of the other. -/
def RotEq (x y : List Int) : Prop := ∃ u v, x = u ++ v ∧ y = v ++ u
theorem RotEq.refl (x : List Int) : RotEq x x := ⟨[], x, rfl, by simp⟩
theorem RotEq.symm {x y : List Int} (h : RotEq x y) : RotEq y x := let ⟨u, v, h1, h2⟩ := h; ⟨v, u, h2, h1⟩
theorem RotEq.trans {x y z : List Int} (h : RotEq x y) (k : RotEq y z) : RotEq x z := by
  obtain ⟨u, v, rfl, rfl⟩ := h
  obtain ⟨s, t, h1, rfl⟩ := k
  rcases List.append_eq_append_iff.1 h1 with ⟨a, rfl, rfl⟩ | ⟨a, rfl, rfl⟩
  · exact ⟨a, t ++ v, by simp, by simp⟩
  · exact ⟨u ++ s, a, by simp, by simp⟩
theorem RotEq.len {x y : List Int} (h : RotEq x y) : x.length = y.length := by
  obtain ⟨u, v, rfl, rfl⟩ := h
  simp; omega
theorem rot_rotEq {x : List Int} (i : Nat) : RotEq x (rot x i) := ⟨x.take i, x.drop i, (List.take_append_drop i x).symm, rfl⟩
theorem RotEq.rot {x y : List Int} (h : RotEq x y) (h0 : 0 < x.length) : ∃ q, q < x.length ∧ y = rot x q := by
  obtain ⟨u, v, rfl, rfl⟩ := h
  by_cases hv : v = []
  · subst hv
    exact ⟨0, h0, by simp [Go.Proofs.YtgmfjhmphiiifaaDoor.rot]⟩
  · have : 0 < v.length := by cases v <;> simp_all
    exact ⟨u.length, by simp; omega, by simp [Go.Proofs.YtgmfjhmphiiifaaDoor.rot]⟩
theorem IsLeast.turn {x y r : List Int} (h : IsLeast x r) (k : RotEq x y) : IsLeast y r := by
  have hl := k.len
  constructor
  · intro h0
    obtain ⟨p, hp, hr, hq⟩ := h.1 (by omega)
    obtain ⟨p', hp', hr'⟩ := (k.symm.trans (rot_rotEq p)).rot h0
    refine ⟨p', hp', by rw [hr]; exact hr', fun q h1 => ?_⟩
    obtain ⟨q', hq', hrq⟩ := (k.trans (rot_rotEq q)).rot (by omega)
    rw [hrq]
    exact hq q' hq'
  · intro h0
    exact h.2 (by omega)

theorem red_mid (a b c : List Int) : red (a ++ red b ++ c) = red (a ++ b ++ c) := by
  rw [List.append_assoc, ← red_r a, red_l, red_r, List.append_assoc]
theorem conj1 (z : List Int) (hz : Adj z) (l : Int) (hl : l ≠ 0) : RotEq (core (red ([l] ++ z ++ [-l]))) (core z) := by
  cases z with
  | nil =>
    have := red_insert [] [] l
    simp at this ⊢
    rw [this]
    exact RotEq.refl _
  | cons a z =>
    by_cases ha : a = -l
    · subst ha
      have h1 := red_insert [] (z ++ [-l]) l
      simp only [List.nil_append] at h1
      have h2 : [l] ++ -l :: z ++ [-l] = [l, -l] ++ (z ++ [-l]) := by simp
      rw [h2, h1]
      by_cases hb : ∃ t, z = t ++ [l]
      · obtain ⟨t, rfl⟩ := hb
        have h3 := red_insert t [] l
        simp only [List.append_nil] at h3
        rw [show t ++ [l] ++ [-l] = t ++ [l, -l] by simp, h3, (hz.tail.init).red]
        have hE : Ends (-l :: (t ++ [l])) := ⟨by simp, by simp⟩
        have hi : inner (-l :: (t ++ [l])) = t := by simp [inner]
        rw [← core_in hE, hi]
        exact RotEq.refl _
      · have hlast : ∀ b, z[z.length - 1]? = some b → b ≠ - -l := fun b hbb e => hb ⟨z.dropLast, by
          have hne : z ≠ [] := by rintro rfl; simp at hbb
          have : z.getLast hne = l := by
            rw [List.getLast_eq_getElem]
            have := (List.getElem?_eq_some_iff.1 hbb).2
            omega
          rw [← this, List.dropLast_concat_getLast]⟩
        have hA : Adj (z ++ [-l]) := hz.tail.snoc hlast
        rw [hA.red]
        have n1 : ¬ Ends (z ++ [-l]) := by
          rintro ⟨e1, e2⟩
          cases z with
          | nil => simp at e1
          | cons b z =>
            simp at e2
            exact hz 0 (-l) b rfl rfl (by omega)
        have n2 : ¬ Ends (-l :: z) := by
          rintro ⟨e1, e2⟩
          have hlen : 0 < z.length := by simp at e1; omega
          obtain ⟨b, hbb⟩ : ∃ b, z[z.length - 1]? = some b := ⟨_, List.getElem?_eq_getElem (by omega)⟩
          have : (-l :: z)[z.length]? = some b := by
            rw [show z.length = (z.length - 1) + 1 by omega, List.getElem?_cons_succ]; exact hbb
          rw [List.length_cons, Nat.add_sub_cancel, this] at e2
          change -l = -b at e2
          exact hlast b hbb (by omega)
        rw [core_out n1, core_out n2]
        exact ⟨z, [-l], rfl, rfl⟩
    · have hcons : Adj (l :: a :: z) := hz.cons fun b hb => by
        simp at hb
        subst hb
        omega
      by_cases hb : ∃ t, a :: z = t ++ [l]
      · obtain ⟨t, ht⟩ := hb
        rw [ht] at hz hcons ⊢
        have h3 := red_insert ([l] ++ t) [] l
        simp only [List.append_nil] at h3
        have hlt : Adj (l :: t) := by
          have : l :: (t ++ [l]) = (l :: t) ++ [l] := by simp
          rw [this] at hcons
          exact hcons.init
        rw [show [l] ++ (t ++ [l]) ++ [-l] = [l] ++ t ++ [l, -l] by simp, h3, show [l] ++ t = l :: t from rfl, hlt.red]
        have n1 : ¬ Ends (l :: t) := by
          rintro ⟨e1, e2⟩
          have hlen : 0 < t.length := by simp at e1; omega
          obtain ⟨b, hbb⟩ : ∃ b, t[t.length - 1]? = some b := ⟨_, List.getElem?_eq_getElem (by omega)⟩
          have h5 : (l :: t)[t.length]? = some b := by
            rw [show t.length = (t.length - 1) + 1 by omega, List.getElem?_cons_succ]; exact hbb
          rw [List.length_cons, Nat.add_sub_cancel, h5] at e2
          change l = -b at e2
          exact hz (t.length - 1) b l (by rw [List.getElem?_append_left (by omega)]; exact hbb) (by rw [List.getElem?_append_right (by omega), show t.length - 1 + 1 - t.length = 0 by omega]; rfl) (by omega)
        have n2 : ¬ Ends (t ++ [l]) := by
          rintro ⟨e1, e2⟩
          have h6 : (t ++ [l])[0]? = some a := by rw [← ht]; rfl
          have h7 : (t ++ [l])[(t ++ [l]).length - 1]? = some l := by simp
          rw [h6, h7] at e2
          exact ha e2
        rw [core_out n1, core_out n2]
        exact ⟨[l], t, rfl, rfl⟩
      · have hlast : ∀ b, (l :: a :: z)[(l :: a :: z).length - 1]? = some b → b ≠ - -l := fun b hbb e => hb ⟨(a :: z).dropLast, by
          have : (a :: z).getLast (by simp) = l := by
            rw [List.getLast_eq_getElem]
            simp at hbb ⊢
            rw [hbb]
            omega
          rw [← this, List.dropLast_concat_getLast]⟩
        have hA : Adj (l :: a :: z ++ [-l]) := hcons.snoc hlast
        rw [show [l] ++ a :: z ++ [-l] = l :: a :: z ++ [-l] by simp, hA.red]
        have hE : Ends (l :: a :: z ++ [-l]) := ⟨by simp, by simp⟩
        have hi : inner (l :: a :: z ++ [-l]) = a :: z := by simp [inner]
        rw [← core_in hE, hi]
        exact RotEq.refl _

theorem conj (w : List Int) : ∀ by' : List Int, (∀ l ∈ by', l ≠ 0) → RotEq (core (red (by' ++ w ++ rn by'))) (core (red w))
  | [], _ => by simp [rn]; exact RotEq.refl _
  | l :: by', h => by
    have ih := conj w by' fun x hx => h x (by simp [hx])
    have h1 := conj1 (red (by' ++ w ++ rn by')) (adj_red _) l (h l (by simp))
    rw [red_mid] at h1
    have e : l :: by' ++ w ++ rn (l :: by') = [l] ++ (by' ++ w ++ rn by') ++ [-l] := by simp [rn]
    rw [e]
    exact h1.trans ih
end Go.Proofs.YtgmfjhmphiiifaaDoor
