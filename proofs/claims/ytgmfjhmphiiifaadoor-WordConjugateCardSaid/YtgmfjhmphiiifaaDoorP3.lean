/- Plain law: the least rotation. -/
import Derived.Test.YtgmfjhmphiiifaaDoorW3
namespace Go.Proofs.YtgmfjhmphiiifaaDoor
open Go.Ab
set_option linter.unusedVariables false

theorem lessL_trans : ∀ {a b c : List Int}, a.length = b.length → b.length = c.length → lessL b a = false → lessL c b = false → lessL c a = false
  | [], [], [], _, _, _, _ => rfl
  | x :: a, y :: b, z :: c, h1, h2, h3, h4 => by
    simp only [lessL] at *
    by_cases e1 : z = x
    · rw [if_pos e1]
      subst e1
      by_cases e2 : y = z
      · subst e2
        rw [if_pos rfl] at h3 h4
        exact lessL_trans (by simpa using h1) (by simpa using h2) h3 h4
      · rw [if_neg e2] at h3
        rw [if_neg (Ne.symm e2)] at h4
        simp at h3 h4
        omega
    · rw [if_neg e1]
      by_cases e2 : y = x
      · subst e2
        rw [if_neg e1] at h4
        exact h4
      · rw [if_neg e2] at h3
        by_cases e3 : z = y
        · subst e3; exact h3
        · rw [if_neg e3] at h4
          simp at h3 h4 ⊢
          omega

theorem lessL_asymm : ∀ {a b : List Int}, lessL a b = true → lessL b a = true → False
  | x :: a, y :: b, h1, h2 => by
    simp only [lessL] at *
    by_cases e : x = y
    · subst e
      rw [if_pos rfl] at h1 h2
      exact lessL_asymm h1 h2
    · rw [if_neg e] at h1
      rw [if_neg (Ne.symm e)] at h2
      simp at h1 h2
      omega
  | [], _, h1, _ => by simp [lessL] at h1
  | _ :: _, [], h1, _ => by simp [lessL] at h1

/-- The rotation that begins at i. -/
def rot (x : List Int) (i : Nat) : List Int := x.drop i ++ x.take i
theorem rot_len {x : List Int} {i : Nat} (h : i ≤ x.length) : (rot x i).length = x.length := by simp [rot]; omega
theorem rot_get {x : List Int} {i t : Nat} (h : i < x.length) (ht : t < x.length) : (rot x i)[t]? = x[(i + t) % x.length]? := by
  unfold rot
  by_cases h1 : i + t < x.length
  · rw [List.getElem?_append_left (by simp; omega), List.getElem?_drop, Nat.mod_eq_of_lt h1]
  · rw [List.getElem?_append_right (by simp; omega), List.length_drop, List.getElem?_take, if_pos (by omega), Nat.mod_eq_sub_mod (by omega), Nat.mod_eq_of_lt (by omega)]
    congr 1
    omega
theorem rot_ext {x : List Int} {i k : Nat} (hi : i < x.length) (hk : k < x.length) {m : Nat} (hm : m ≤ x.length) (h : ∀ t, t < m → x[(i + t) % x.length]? = x[(k + t) % x.length]?) : (rot x i).take m = (rot x k).take m := by
  apply List.ext_getElem?
  intro t
  rw [List.getElem?_take, List.getElem?_take]
  split
  · rw [rot_get hi (by omega), rot_get hk (by omega), h t (by omega)]
  · rfl

def Beaten (x : List Int) (p : Nat) : Prop := ∃ q, q < x.length ∧ lessL (rot x q) (rot x p) = true

theorem least_ex (x : List Int) : ∀ m, 0 < m → m ≤ x.length → ∃ p, p < m ∧ ∀ q, q < m → lessL (rot x q) (rot x p) = false
  | 0, h, _ => by omega
  | m + 1, _, hm => by
    by_cases h0 : m = 0
    · subst h0
      exact ⟨0, by omega, fun q hq => by obtain rfl : q = 0 := by omega
                                         exact lessL_irr _⟩
    · obtain ⟨p, hp, h⟩ := least_ex x m (by omega) (by omega)
      by_cases hl : lessL (rot x m) (rot x p) = true
      · refine ⟨m, by omega, fun q hq => ?_⟩
        by_cases hqm : q = m
        · subst hqm; exact lessL_irr _
        · have l1 : (rot x m).length = x.length := rot_len (by omega)
          have l2 : (rot x p).length = x.length := rot_len (by omega)
          have l3 : (rot x q).length = x.length := rot_len (by omega)
          refine lessL_trans (b := rot x p) (by omega) (by omega) ?_ (h q (by omega))
          cases h3 : lessL (rot x p) (rot x m) with
          | false => rfl
          | true =>
            exact (lessL_asymm hl h3).elim
      · refine ⟨p, by omega, fun q hq => ?_⟩
        by_cases hqm : q = m
        · subst hqm; simpa using hl
        · exact h q (by omega)

theorem beaten_of {x : List Int} {i k same t : Nat} (hi : i < x.length) (hk : k < x.length) (hs : same < x.length) (hag : ∀ u, u < same → x[(i + u) % x.length]? = x[(k + u) % x.length]?) {a b : Int}
    (ha : x[(i + same) % x.length]? = some a) (hb : x[(k + same) % x.length]? = some b) (hab : b < a) (ht : t ≤ same) (hit : i + t < x.length) : Beaten x (i + t) := by
  have hq : (k + t) % x.length < x.length := Nat.mod_lt _ (by omega)
  refine ⟨(k + t) % x.length, hq, ?_⟩
  have h1 : (rot x ((k + t) % x.length)).take (same - t) = (rot x (i + t)).take (same - t) := by
    refine rot_ext hq hit (by omega) fun u hu => ?_
    rw [Nat.mod_add_mod, show k + t + u = k + (t + u) by omega, show i + t + u = i + (t + u) by omega]
    exact (hag (t + u) (by omega)).symm
  have h2 : (rot x ((k + t) % x.length))[same - t]? = some b := by
    rw [rot_get hq (by omega), Nat.mod_add_mod, show k + t + (same - t) = k + same by omega]
    exact hb
  have h3 : (rot x (i + t))[same - t]? = some a := by
    rw [rot_get hit (by omega), show i + t + (same - t) = i + same by omega]
    exact ha
  rw [lessL_at h1 h2 h3 (by omega)]
  simpa using hab

theorem rot_eq {x : List Int} {i k : Nat} (hi : i < x.length) (hk : k < x.length) (h : ∀ t, t < x.length → x[(i + t) % x.length]? = x[(k + t) % x.length]?) : rot x i = rot x k := by
  have := rot_ext hi hk (Nat.le_refl _) h
  rwa [List.take_of_length_le (by rw [rot_len (by omega)]; exact Nat.le_refl _), List.take_of_length_le (by rw [rot_len (by omega)]; exact Nat.le_refl _)] at this

/-- What holds between two rounds of least. -/
structure LInv (x : List Int) (i k same : Nat) : Prop where
  ne : i ≠ k
  one : i < x.length ∨ k < x.length
  le : same ≤ x.length
  both : 0 < same → i < x.length ∧ k < x.length
  ag : i < x.length → k < x.length → ∀ u, u < same → x[(i + u) % x.length]? = x[(k + u) % x.length]?
  bt : ∀ p, p < max i k → p < x.length → p = i ∨ p = k ∨ Beaten x p

def IsMin (x : List Int) (p : Nat) : Prop := p < x.length ∧ ∀ q, q < x.length → lessL (rot x q) (rot x p) = false
theorem IsMin.not {x : List Int} {p : Nat} (h : IsMin x p) : ¬ Beaten x p := by
  rintro ⟨q, h1, h2⟩
  rw [h.2 q h1] at h2
  cases h2

theorem LInv.swap {x : List Int} {i k same : Nat} (h : LInv x i k same) : LInv x k i same :=
  ⟨h.ne.symm, h.one.symm, h.le, fun h0 => (h.both h0).symm, fun a b u hu => (h.ag b a u hu).symm, fun p h1 h2 => by
    rcases h.bt p (by omega) h2 with h' | h' | h'
    · exact .inr (.inl h')
    · exact .inl h'
    · exact .inr (.inr h')⟩

theorem least_lt {x : List Int} {i k same : Nat} (h : LInv x i k same) (hik : i < k) (he : ¬ (i < x.length ∧ k < x.length ∧ same < x.length)) : IsMin x i := by
  have hi : i < x.length := by have := h.one; omega
  obtain ⟨p, hp, hmin⟩ := least_ex x x.length (by omega) (Nat.le_refl _)
  have hm : IsMin x p := ⟨hp, hmin⟩
  by_cases hk : k < x.length
  · have hr : rot x i = rot x k := rot_eq hi hk fun t ht => h.ag hi hk t (by omega)
    have key : ∀ (n p : Nat), p ≤ n → IsMin x p → IsMin x i := by
      intro n
      induction n with
      | zero =>
        intro p hp hm
        rcases h.bt p (by omega) hm.1 with h' | h' | h'
        · exact h' ▸ hm
        · omega
        · exact (hm.not h').elim
      | succ n ih =>
        intro p hp hm
        by_cases hpk : p < k
        · rcases h.bt p (by omega) hm.1 with h' | h' | h'
          · exact h' ▸ hm
          · omega
          · exact (hm.not h').elim
        · have hp' : p - (k - i) < x.length := by have := hm.1; omega
          have e : rot x (p - (k - i)) = rot x p := by
            refine rot_eq hp' hm.1 fun t ht => ?_
            have := h.ag hi hk ((p - k + t) % x.length) (by have := Nat.mod_lt (p - k + t) (show x.length > 0 by omega); omega)
            rw [Nat.add_mod_mod, Nat.add_mod_mod] at this
            rw [show p - (k - i) + t = i + (p - k + t) by omega, show p + t = k + (p - k + t) by omega]
            exact this
          exact ih (p - (k - i)) (by omega) ⟨hp', by rw [e]; exact hm.2⟩
    exact key p p (Nat.le_refl _) hm
  · rcases h.bt p (by omega) hp with h' | h' | h'
    · exact h' ▸ hm
    · omega
    · exact (hm.not h').elim

theorem least_end {x : List Int} {i k same : Nat} (h : LInv x i k same) (he : ¬ (i < x.length ∧ k < x.length ∧ same < x.length)) : IsMin x (min i k) := by
  rcases Nat.lt_or_gt_of_ne h.ne with h1 | h1
  · rw [Nat.min_eq_left (by omega)]; exact least_lt h h1 he
  · rw [Nat.min_eq_right (by omega)]; exact least_lt h.swap h1 (by omega)

theorem LInv.same {x : List Int} {i k same : Nat} (h : LInv x i k same) (hi : i < x.length) (hk : k < x.length) (hs : same < x.length) (e : x[(i + same) % x.length]? = x[(k + same) % x.length]?) : LInv x i k (same + 1) :=
  ⟨h.ne, h.one, hs, fun _ => ⟨hi, hk⟩, fun _ _ u hu => by
    by_cases hus : u = same
    · subst hus; exact e
    · exact h.ag hi hk u (by omega), h.bt⟩

theorem LInv.step {x : List Int} {i k same : Nat} (h : LInv x i k same) (hi : i < x.length) (hk : k < x.length) (hs : same < x.length) {a b : Int}
    (ha : x[(i + same) % x.length]? = some a) (hb : x[(k + same) % x.length]? = some b) (hab : b < a) :
    (i + (same + 1) = k → LInv x k (k + 1) 0) ∧ (i + (same + 1) ≠ k → LInv x (i + (same + 1)) k 0) := by
  have hbt : ∀ p, i ≤ p → p < i + (same + 1) → p < x.length → Beaten x p := fun p h1 h2 h3 => by
    have := beaten_of hi hk hs (h.ag hi hk) ha hb hab (t := p - i) (by omega) (by omega)
    rwa [show i + (p - i) = p by omega] at this
  constructor
  · intro e
    refine ⟨by omega, .inl hk, Nat.zero_le _, fun h => by omega, fun _ _ u hu => by omega, fun p h1 h2 => ?_⟩
    by_cases hpk : p = k
    · exact .inl hpk
    · by_cases hpi : i ≤ p
      · exact .inr (.inr (hbt p hpi (by omega) h2))
      · rcases h.bt p (by omega) h2 with h' | h' | h'
        · omega
        · omega
        · exact .inr (.inr h')
  · intro e
    refine ⟨e, .inr hk, Nat.zero_le _, fun h => by omega, fun _ _ u hu => by omega, fun p h1 h2 => ?_⟩
    by_cases hpk : p = k
    · exact .inr (.inl hpk)
    · by_cases hpi : i ≤ p ∧ p < i + (same + 1)
      · exact .inr (.inr (hbt p hpi.1 hpi.2 h2))
      · rcases h.bt p (by omega) h2 with h' | h' | h'
        · omega
        · omega
        · exact .inr (.inr h')
end Go.Proofs.YtgmfjhmphiiifaaDoor
