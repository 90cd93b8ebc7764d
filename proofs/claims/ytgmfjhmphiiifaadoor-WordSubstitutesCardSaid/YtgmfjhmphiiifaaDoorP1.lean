/- Words, plainly: reduction by a stack. -/
import Derived.Test.YtgmfjhmphiiifaaDoorW2
namespace Go.Proofs.YtgmfjhmphiiifaaDoor

/-- A stack with its top first. -/
def rpush : List Int → Int → List Int
  | y :: t, x => if y = -x then t else x :: y :: t
  | [], x => [x]

theorem push1_rev (st : List Int) (x : Int) : push1 st.reverse x = (rpush st x).reverse := by
  cases st with
  | nil => simp [push1, rpush]
  | cons y t =>
    simp only [push1, rpush, List.reverse_cons]
    simp only [List.getLast?_append, List.getLast?_singleton, Option.some_or]
    by_cases h : y = -x
    · rw [if_pos (by rw [h]), if_pos h]; simp
    · rw [if_neg (by simpa using h), if_neg h]; simp

theorem pushL_rev (ls st : List Int) : pushL st.reverse ls = (ls.foldl rpush st).reverse := by
  induction ls generalizing st with
  | nil => rfl
  | cons x ls ih =>
    show pushL (push1 st.reverse x) ls = _
    rw [push1_rev, ih]; rfl

theorem red_rev (xs : List Int) : red xs = (xs.foldl rpush []).reverse := pushL_rev xs []

/-- No letter stands beside its inverse. -/
def RedR : List Int → Prop
  | a :: b :: t => a ≠ -b ∧ RedR (b :: t)
  | _ => True

theorem RedR.tail {a : Int} {t : List Int} (h : RedR (a :: t)) : RedR t := by
  cases t with
  | nil => trivial
  | cons b t => exact h.2

theorem rpush_red {st : List Int} (h : RedR st) (x : Int) : RedR (rpush st x) := by
  cases st with
  | nil => trivial
  | cons y t =>
    simp only [rpush]
    split
    · exact h.tail
    · rename_i hne
      exact ⟨fun e => hne (by omega), h⟩

theorem redR_nil : RedR [] := by unfold RedR; trivial

theorem rpush_eq {y x : Int} {t : List Int} (h : y = -x) : rpush (y :: t) x = t := if_pos h
theorem rpush_ne {y x : Int} {t : List Int} (h : y ≠ -x) : rpush (y :: t) x = x :: y :: t := if_neg h

theorem rpush_cancel {st : List Int} (h : RedR st) (x : Int) : rpush (rpush st x) (-x) = st := by
  cases st with
  | nil => exact rpush_eq (by omega)
  | cons y t =>
    by_cases hy : y = -x
    · rw [rpush_eq hy]
      cases t with
      | nil => rw [hy]; rfl
      | cons z t =>
        have h1 := h.1
        rw [rpush_ne (by omega), hy]
    · rw [rpush_ne hy, rpush_eq (by omega)]

theorem fold_red (ls : List Int) : ∀ {st : List Int}, RedR st → RedR (ls.foldl rpush st) := by
  induction ls with
  | nil => intro st h; exact h
  | cons x ls ih => intro st h; exact ih (rpush_red h x)

theorem fold_self : ∀ {st : List Int}, RedR st → st.reverse.foldl rpush [] = st
  | [], _ => rfl
  | a :: t, h => by
    rw [List.reverse_cons, List.foldl_append, fold_self h.tail]
    cases t with
    | nil => rfl
    | cons b t =>
      simp only [List.foldl_cons, List.foldl_nil, rpush]
      have := h.1
      rw [if_neg (by omega)]

theorem red_insert (a b : List Int) (x : Int) : red (a ++ [x, -x] ++ b) = red (a ++ b) := by
  simp only [red_rev, List.foldl_append, List.foldl_cons, List.foldl_nil]
  rw [rpush_cancel (fold_red a redR_nil)]

theorem red_red (xs : List Int) : red (red xs) = red xs := by
  rw [red_rev xs, red_rev, fold_self (fold_red xs redR_nil)]

theorem rpush_par (st : List Int) (x : Int) : ((rpush st x).length + 1) % 2 = st.length % 2 := by
  cases st with
  | nil => simp [rpush]
  | cons y t => simp only [rpush]; split <;> simp; omega

theorem fold_par (ls : List Int) : ∀ st : List Int, ((ls.foldl rpush st).length + ls.length) % 2 = st.length % 2 := by
  induction ls with
  | nil => intro st; simp
  | cons x ls ih =>
    intro st
    have h1 := ih (rpush st x)
    have h2 := rpush_par st x
    simp only [List.foldl_cons, List.length_cons]
    omega

theorem red_len (xs : List Int) : (red xs).length ≤ xs.length := by
  have := pushL_len xs []
  simpa [red] using this
theorem red_par (xs : List Int) : ((red xs).length + xs.length) % 2 = 0 := by
  have := fold_par xs []
  rw [red_rev]
  simpa using this
end Go.Proofs.YtgmfjhmphiiifaaDoor
