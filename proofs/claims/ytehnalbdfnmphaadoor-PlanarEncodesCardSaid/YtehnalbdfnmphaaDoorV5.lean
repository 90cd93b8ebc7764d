/- Going through the faces, each from its least half-edge: plain. -/
import Derived.Test.YtehnalbdfnmphaaDoorV4
namespace Go.Proofs.YtehnalbdfnmphaaDoor
open Go.Ab
set_option linter.unusedVariables false

theorem orb_symm {n : Nat} {f : Nat → Nat} (hi : Inj n f) (hl : ∀ h, h < n → f h < n) {a h j : Nat} (ha : a < n) (he : it f j a = h) : ∃ i, it f i h = a := by
  obtain ⟨k, h1, h2, h3⟩ := it_back hi hl ha
  obtain ⟨k, rfl⟩ : ∃ z, k = z + 1 := ⟨k - 1, by omega⟩
  obtain ⟨i, h4, h5⟩ := it_all h3 j
  refine ⟨k + 1 - i, ?_⟩
  rw [← he, h5, ← it_add, show k + 1 - i + i = k + 1 by omega, h3]

/-- Seen: on the face of one below c. -/
def Seen (f : Nat → Nat) (c g : Nat) : Prop := ∃ a, a < c ∧ ∃ j, it f j a = g

theorem seen_least {n : Nat} {f : Nat → Nat} (hi : Inj n f) (hl : ∀ h, h < n → f h < n) {c : Nat} (hc : c < n) : ¬ Seen f c c ↔ Least f c := by
  constructor
  · intro h j
    refine Classical.byContradiction fun hlt => h ⟨it f j c, by omega, ?_⟩
    exact orb_symm hi hl hc rfl
  · rintro h ⟨a, ha, j, hj⟩
    obtain ⟨i, hi2⟩ := orb_symm hi hl (by omega) hj
    have := h i
    omega
theorem seen_succ {f : Nat → Nat} {c g : Nat} : Seen f (c + 1) g ↔ Seen f c g ∨ ∃ j, it f j c = g := by
  constructor
  · rintro ⟨a, ha, j, hj⟩
    rcases Nat.lt_or_ge a c with h | h
    · exact .inl ⟨a, h, j, hj⟩
    · have : a = c := by omega
      subst this
      exact .inr ⟨j, hj⟩
  · rintro (⟨a, ha, j, hj⟩ | ⟨j, hj⟩)
    · exact ⟨a, by omega, j, hj⟩
    · exact ⟨c, by omega, j, hj⟩
theorem seen_skip {f : Nat → Nat} {c g : Nat} (h : Seen f c c) : Seen f (c + 1) g ↔ Seen f c g := by
  rw [seen_succ]
  refine ⟨?_, .inl⟩
  rintro (h1 | ⟨j, hj⟩)
  · exact h1
  · obtain ⟨a, ha, i, hi⟩ := h
    exact ⟨a, ha, j + i, by rw [it_add, hi, hj]⟩
theorem seen_stop {n : Nat} {f : Nat → Nat} (hi : Inj n f) (hl : ∀ h, h < n → f h < n) {c i : Nat} (hc : c < n) (hn : ¬ Seen f c c) (hs : Seen f c (it f i c) ∨ ∃ z, z < i ∧ it f z c = it f i c) (g : Nat) :
    (Seen f c g ∨ ∃ z, z < i ∧ it f z c = g) ↔ Seen f (c + 1) g := by
  rw [seen_succ]
  refine ⟨fun h => h.imp id fun ⟨z, _, h2⟩ => ⟨z, h2⟩, fun h => ?_⟩
  rcases h with h | ⟨j, hj⟩
  · exact .inl h
  · refine .inr ?_
    have il : ∀ m, it f m c < n := fun m => by
      induction m with
      | zero => exact hc
      | succ m ih => exact hl _ ih
    rcases hs with ⟨a, ha, x, hx⟩ | ⟨z, hz, hz2⟩
    · obtain ⟨y, hy⟩ := orb_symm hi hl hc (j := i) rfl
      exact absurd ⟨a, ha, y + x, by rw [it_add, hx, hy]⟩ hn
    · have h3 : it f (i - z) c = c := it_cancel hi hl hc z (i - z) (by rw [hz2, show z + (i - z) = i by omega])
      obtain ⟨k, hk⟩ : ∃ k, i - z = k + 1 := ⟨i - z - 1, by omega⟩
      rw [hk] at h3
      obtain ⟨y, h4, h5⟩ := it_all h3 j
      exact ⟨y, by omega, by rw [← h5, hj]⟩

/-- How many are not seen yet. -/
def uns (sn : List Bool) : Nat := sn.countP fun b => !b
theorem uns_set {sn : List Bool} {g : Nat} (hg : g < sn.length) (h : sn.getD g false = false) : uns (sn.set g true) < uns sn := by
  unfold uns
  have h1 : sn[g] = false := by rw [← h]; simp [List.getD, hg]
  rw [List.countP_set hg, h1]
  have : 0 < sn.countP fun b => !b := List.countP_pos_iff.2 ⟨sn[g], List.getElem_mem hg, by rw [h1]; rfl⟩
  simp; omega
theorem getDb_set {sn : List Bool} {b : Nat} {x : Bool} (hb : b < sn.length) (k : Nat) : (sn.set b x).getD k false = if k = b then x else sn.getD k false := by
  simp only [List.getD_eq_getElem?_getD, List.getElem?_set]
  by_cases h : b = k
  · subst h; simp [hb]
  · rw [if_neg h, if_neg (Ne.symm h)]

/-- The numbers of faces less those of crossings. -/
def Exc (ms ps es : List Int) (P c : Nat) : Prop := es.length = P ∧ ∀ p : Nat, p < P → es.getD p 0 = (((leasts ms c).countP (labAt ps p) : Nat) : Int) - ((ps.countP (fun y => y == (p : Int)) : Nat) : Int)
theorem Exc.skip {ms ps es : List Int} {P c : Nat} (h : Exc ms ps es P c) (hn : ¬ Least (phi ms) c) : Exc ms ps es P (c + 1) := by
  refine ⟨h.1, fun p hp => ?_⟩
  rw [leasts_succ, if_neg hn, List.append_nil]
  exact h.2 p hp
theorem Exc.next {ms ps es : List Int} {P c q : Nat} (h : Exc ms ps es P c) (hn : Least (phi ms) c) (hq : ps.getD (c / 4) 0 = (q : Int)) (hqP : q < P) : Exc ms ps (es.set q (es.getD q 0 + 1)) P (c + 1) := by
  refine ⟨by rw [List.length_set]; exact h.1, fun p hp => ?_⟩
  rw [leasts_succ, if_pos hn, List.countP_append, getD_set (by rw [h.1]; exact hqP)]
  have h2 := h.2 p hp
  have h3 : [c].countP (labAt ps p) = if q = p then 1 else 0 := by
    simp only [List.countP_cons, List.countP_nil, labAt, hq, Nat.zero_add]
    by_cases hqp : q = p
    · subst hqp; simp
    · rw [if_neg hqp, if_neg]; simp; omega
  rw [h3]
  by_cases hqp : p = q
  · subst hqp
    rw [if_pos rfl, if_pos rfl, h2]; omega
  · rw [if_neg hqp, if_neg (Ne.symm hqp), h2]; omega
/-- At first: less one for each crossing. -/
def Exc0 (ps es : List Int) (P i : Nat) : Prop := es.length = P ∧ ∀ p : Nat, p < P → es.getD p 0 = -(((ps.take i).countP (fun y => y == (p : Int)) : Nat) : Int)
theorem Exc0.next {ps es : List Int} {P i q : Nat} (h : Exc0 ps es P i) (hq : ps[i]? = some (q : Int)) (hqP : q < P) : Exc0 ps (es.set q (es.getD q 0 - 1)) P (i + 1) := by
  refine ⟨by rw [List.length_set]; exact h.1, fun p hp => ?_⟩
  rw [take_snoc hq, List.countP_append, getD_set (by rw [h.1]; exact hqP)]
  have h2 := h.2 p hp
  have h3 : [(q : Int)].countP (fun y => y == (p : Int)) = if q = p then 1 else 0 := by
    simp only [List.countP_cons, List.countP_nil, Nat.zero_add]
    by_cases hqp : q = p
    · subst hqp; simp
    · rw [if_neg hqp, if_neg]; simp; omega
  rw [h3]
  by_cases hqp : p = q
  · subst hqp
    rw [if_pos rfl, if_pos rfl, h2]; omega
  · rw [if_neg hqp, if_neg (Ne.symm hqp), h2]; omega
theorem Exc0.done {ms ps es : List Int} {P i : Nat} (h : Exc0 ps es P i) (hi : ps.length ≤ i) : Exc ms ps es P 0 := by
  refine ⟨h.1, fun p hp => ?_⟩
  rw [h.2 p hp, List.take_of_length_le hi]
  simp [leasts]
end Go.Proofs.YtehnalbdfnmphaaDoor
