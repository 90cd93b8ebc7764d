/- Plain law: products and inverses. -/
import Derived.Test.YtgmfjhmphiiifaaDoorP1
import Derived.Test.YtgmfjhmphiiifaaDoorW2
namespace Go.Proofs.YtgmfjhmphiiifaaDoor
open Go.Ab
set_option linter.unusedVariables false

def rn (w : List Int) : List Int := w.reverse.map (- ·)
def invL (zs : List Int) : List Int := pushL [] (zs.reverse.map (- ·))
theorem invL_eq (w : List Int) : invL w = red (rn w) := rfl
theorem rn_app (a b : List Int) : rn (a ++ b) = rn b ++ rn a := by simp [rn]
theorem rn_rn (a : List Int) : rn (rn a) = a := by simp [rn, List.map_reverse, Function.comp_def]
theorem rn_len (a : List Int) : (rn a).length = a.length := by simp [rn]
theorem mem_rn {a : List Int} {x : Int} : x ∈ rn a ↔ -x ∈ a := by
  simp only [rn, List.mem_map, List.mem_reverse]
  constructor
  · rintro ⟨y, h, rfl⟩; simpa using h
  · intro h; exact ⟨-x, h, by simp⟩

theorem push1_cases (st : List Int) (x : Int) : push1 st x = st ++ [x] ∨ ∃ t, st = t ++ [-x] ∧ push1 st x = t := by
  unfold push1
  split
  · rename_i h
    right
    obtain ⟨t, rfl⟩ := List.getLast?_eq_some_iff.1 h
    exact ⟨t, rfl, by simp⟩
  · exact .inl rfl

theorem red_push (x : List Int) : ∀ (y st : List Int), red (x ++ pushL st y) = red (x ++ st ++ y)
  | [], st => by simp [pushL]
  | a :: y, st => by
    have ih := red_push x y (push1 st a)
    have h1 : pushL st (a :: y) = pushL (push1 st a) y := rfl
    rw [h1, ih]
    rcases push1_cases st a with h | ⟨t, rfl, h⟩
    · rw [h]; simp
    · rw [h]
      have := red_insert (x ++ t) y (-a)
      simp at this ⊢
      exact this.symm

theorem red_r (x y : List Int) : red (x ++ red y) = red (x ++ y) := by
  have := red_push x y []
  simpa [red] using this
theorem red_l (x y : List Int) : red (red x ++ y) = red (x ++ y) := by
  have h1 : ∀ a b : List Int, red (a ++ b) = pushL (red a) b := fun a b => by simp [red, pushL, List.foldl_append]
  rw [h1, red_red, h1]

theorem red_inv : ∀ a : List Int, red (a ++ rn a) = [] := by
  intro a
  induction h : a.length generalizing a with
  | zero =>
    have := List.eq_nil_of_length_eq_zero h
    subst this
    rfl
  | succ n ih =>
    obtain ⟨b, x, rfl⟩ : ∃ b x, a = b ++ [x] := ⟨a.dropLast, a.getLast (by intro h'; simp [h'] at h), (List.dropLast_concat_getLast _).symm⟩
    have h2 := ih b (by simp at h; omega)
    have h3 := red_insert b (rn b) x
    rw [rn_app]
    simp [rn] at h3 ⊢
    rw [h3]
    simpa [rn] using h2

theorem rn_push : ∀ (y st : List Int), red (rn (pushL st y)) = red (rn (st ++ y))
  | [], st => by simp [pushL]
  | a :: y, st => by
    have ih := rn_push y (push1 st a)
    have h1 : pushL st (a :: y) = pushL (push1 st a) y := rfl
    rw [h1, ih]
    rcases push1_cases st a with h | ⟨t, rfl, h⟩
    · rw [h]; simp
    · rw [h]
      have := red_insert (rn y) (rn t) (-a)
      simp [rn] at this ⊢
      exact this.symm
theorem rn_red (w : List Int) : red (rn (red w)) = red (rn w) := by
  have := rn_push w []
  simpa [red] using this

theorem redR_at : ∀ {st : List Int} (h : RedR st) {i : Nat} {p q : Int}, st[i]? = some p → st[i + 1]? = some q → p ≠ -q
  | [], _, i, p, q, h1, _ => by simp at h1
  | [a], _, i, p, q, h1, h2 => by simp at h2
  | a :: b :: t, h, 0, p, q, h1, h2 => by
    simp at h1 h2
    subst h1 h2
    exact h.1
  | a :: b :: t, h, i + 1, p, q, h1, h2 => redR_at (st := b :: t) h.2 (i := i) (by simpa using h1) (by simpa using h2)

theorem red_adj (xs : List Int) {i : Nat} {p q : Int} (h1 : (red xs)[i]? = some p) (h2 : (red xs)[i + 1]? = some q) : p ≠ -q := by
  have hr := fold_red xs redR_nil
  rw [red_rev] at h1 h2
  generalize xs.foldl rpush [] = st at *
  have hlt := (List.getElem?_eq_some_iff.1 h2).1
  simp at hlt
  rw [List.getElem?_reverse (by omega)] at h1 h2
  have := redR_at hr (i := st.length - 1 - (i + 1)) h2 (by rw [show st.length - 1 - (i + 1) + 1 = st.length - 1 - i by omega]; exact h1)
  omega
end Go.Proofs.YtgmfjhmphiiifaaDoor
