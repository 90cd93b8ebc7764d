/- Plain law: the least translation. -/
import Derived.Test.YtadelcikpkhclaaDoorGP1
namespace Go.Proofs.YtadelcikpkhclaaDoor
set_option linter.unusedVariables false

def tr (c r : Int) (g : Gr) : Gr := (shf c r g.1, shf c r g.2)
/-- What is wanted of a grid diagram here: both lists have n numbers, from 0 to n - 1. -/
structure Rg (n : Nat) (g : Gr) : Prop where
  pos : 0 < n
  sz : Sz n g
  r1 : ∀ x ∈ g.1, In01 n x
  r2 : ∀ x ∈ g.2, In01 n x
theorem shf_rg {n : Nat} {xs : List Int} (h0 : 0 < n) (h : xs.length = n) (c r : Int) : ∀ x ∈ shf c r xs, In01 n x := by
  intro x hx
  simp only [shf, List.mem_map] at hx
  obtain ⟨k, _, rfl⟩ := hx
  rw [h]
  exact ⟨Int.emod_nonneg _ (by omega), Int.emod_lt_of_pos _ (by omega)⟩
theorem Rg.tr {n : Nat} {g : Gr} (h : Rg n g) (c r : Int) : Rg n (tr c r g) :=
  ⟨h.pos, ⟨by rw [← h.sz.1]; exact shf_len _ _ _, by rw [← h.sz.2]; exact shf_len _ _ _⟩, shf_rg h.pos h.sz.1 c r, shf_rg h.pos h.sz.2 c r⟩
theorem tr_tr (c r c' r' : Int) (g : Gr) : tr c' r' (tr c r g) = tr (c + c') (r + r') g := by simp only [tr, shf_shf]
theorem tr_zero {n : Nat} {g : Gr} (h : Rg n g) : tr 0 0 g = g := by
  have h1 := h.r1
  have h2 := h.r2
  rw [← h.sz.1] at h1
  rw [← h.sz.2] at h2
  simp only [tr, shf_zero h1, shf_zero h2]
theorem tr_mod {n : Nat} {g : Gr} (h : Rg n g) {c r c' r' : Int} (h1 : c % n = c' % n) (h2 : r % n = r' % n) : tr c r g = tr c' r' g := by
  have e1 : shf c r g.1 = shf c' r' g.1 := shf_mod (by rw [h.sz.1]; exact h1) (by rw [h.sz.1]; exact h2)
  have e2 : shf c r g.2 = shf c' r' g.2 := shf_mod (by rw [h.sz.2]; exact h1) (by rw [h.sz.2]; exact h2)
  simp only [tr, e1, e2]

def allT (g : Gr) : List Gr := (List.range g.1.length).flatMap fun c : Nat => (List.range g.1.length).map fun r : Nat => tr c r g
def leastG (g : Gr) : Gr := best g (allT g)
theorem allT_mem {n : Nat} {g : Gr} (h : Rg n g) (t : Gr) : t ∈ allT g ↔ ∃ c r : Int, t = tr c r g := by
  simp only [allT, List.mem_flatMap, List.mem_range, List.mem_map, h.sz.1]
  have h0 := h.pos
  constructor
  · rintro ⟨c, _, r, _, rfl⟩; exact ⟨_, _, rfl⟩
  · rintro ⟨c, r, rfl⟩
    have a1 : 0 ≤ c % n := Int.emod_nonneg _ (by omega)
    have a2 : c % n < n := Int.emod_lt_of_pos _ (by omega)
    have a3 : 0 ≤ r % n := Int.emod_nonneg _ (by omega)
    have a4 : r % n < n := Int.emod_lt_of_pos _ (by omega)
    refine ⟨(c % n).toNat, by omega, (r % n).toNat, by omega, tr_mod h ?_ ?_⟩
    · rw [Int.toNat_of_nonneg a1, Int.emod_emod_of_dvd _ (Int.dvd_refl _)]
    · rw [Int.toNat_of_nonneg a3, Int.emod_emod_of_dvd _ (Int.dvd_refl _)]

structure IsLst (g m : Gr) : Prop where
  mem : ∃ c r : Int, m = tr c r g
  le : ∀ c r : Int, better (tr c r g) m = false
theorem leastG_is {n : Nat} {g : Gr} (h : Rg n g) : IsLst g (leastG g) := by
  obtain ⟨h1, h2, h3⟩ := best_least (allT g) g h.sz (fun s hs => by obtain ⟨c, r, rfl⟩ := (allT_mem h s).1 hs; exact (h.tr c r).sz)
  refine ⟨?_, fun c r => h3 _ ((allT_mem h _).2 ⟨c, r, rfl⟩)⟩
  rcases best_mem (allT g) g with e | e
  · exact ⟨0, 0, by rw [tr_zero h]; exact e⟩
  · exact (allT_mem h _).1 e
theorem IsLst.sz {n : Nat} {g m : Gr} (h : Rg n g) (hm : IsLst g m) : Rg n m := by
  obtain ⟨c, r, rfl⟩ := hm.mem; exact h.tr c r
theorem IsLst.one {n : Nat} {g m m' : Gr} (h : Rg n g) (hm : IsLst g m) (hm' : IsLst g m') : m = m' := by
  obtain ⟨c, r, e⟩ := hm.mem
  obtain ⟨c', r', e'⟩ := hm'.mem
  refine least_one (hm.sz h).sz (hm'.sz h).sz ?_ ?_
  · rw [e]; exact hm'.le c r
  · rw [e']; exact hm.le c' r'
theorem IsLst.of_tr {g m : Gr} (a b : Int) (hm : IsLst (tr a b g) m) : IsLst g m := by
  obtain ⟨c, r, e⟩ := hm.mem
  refine ⟨⟨a + c, b + r, by rw [e, tr_tr]⟩, fun c' r' => ?_⟩
  have := hm.le (c' - a) (r' - b)
  rwa [tr_tr, show a + (c' - a) = c' by omega, show b + (r' - b) = r' by omega] at this
theorem leastG_tr {n : Nat} {g : Gr} (h : Rg n g) (a b : Int) : leastG (tr a b g) = leastG g :=
  IsLst.one h (IsLst.of_tr a b (leastG_is (h.tr a b))) (leastG_is h)
theorem leastG_leastG {n : Nat} {g : Gr} (h : Rg n g) : leastG (leastG g) = leastG g := by
  obtain ⟨c, r, e⟩ := (leastG_is h).mem
  rw [e, leastG_tr h, ← e]

theorem head_at {n : Nat} {g : Gr} (h : Rg n g) : g.1[0]? = some (atN g.1 0) := atN_get (k := 0) (by rw [h.sz.1]; exact h.pos)
theorem head_tr {n : Nat} {g : Gr} (h : Rg n g) (c r : Int) : atN (tr c r g).1 0 = (atN g.1 (-c) + r) % n := by
  simp only [tr]
  rw [atN_shf (by rw [h.sz.1]; exact h.pos), h.sz.1, show (0 : Int) - c = -c by omega]
theorem better_head {a b : Gr} {x y : Int} (ha : a.1[0]? = some x) (hb : b.1[0]? = some y) (h : x < y) : better a b = true := by
  obtain ⟨a1, a2⟩ := a
  obtain ⟨b1, b2⟩ := b
  cases a1 with
  | nil => simp at ha
  | cons p a1 =>
    cases b1 with
    | nil => simp at hb
    | cons q b1 =>
      simp at ha hb
      subst ha hb
      simp only [better, cat, List.cons_append, lexL]
      rw [if_neg (by omega)]
      simpa using h
theorem IsLst.head {n : Nat} {g m : Gr} (h : Rg n g) (hm : IsLst g m) : m.1[0]? = some 0 := by
  have hr := hm.sz h
  have h1 := head_at hr
  have hx := hr.r1 _ (List.mem_of_getElem? h1)
  by_cases e : atN m.1 0 = 0
  · rw [h1, e]
  · exfalso
    obtain ⟨c, r, em⟩ := hm.mem
    have hl := hm.le c (r - atN m.1 0)
    have e2 : tr c (r - atN m.1 0) g = tr 0 (-atN m.1 0) m := by
      conv => rhs; rw [em, tr_tr]
      rw [show c + 0 = c by omega, ← em]; rfl
    rw [e2] at hl
    have hz : (tr 0 (-atN m.1 0) m).1[0]? = some 0 := by
      rw [head_at (hr.tr _ _), head_tr hr, show (-0 : Int) = 0 by omega, show atN m.1 0 + -atN m.1 0 = 0 by omega, Int.zero_emod]
    rw [better_head hz h1 (by unfold In01 at hx; omega)] at hl
    cases hl

/-- The translation that brings the X of column i to the corner. -/
def cand (g : Gr) (i : Nat) : Gr := tr (-(i : Int)) (-(atN g.1 i)) g
def candL (g : Gr) : List Gr := (List.range (g.1.length - 1)).map fun i => cand g (i + 1)
theorem IsLst.cand {n : Nat} {g m : Gr} (h : Rg n g) (hm : IsLst g m) : ∃ i, i < n ∧ m = cand g i := by
  have h0 := h.pos
  obtain ⟨c, r, em⟩ := hm.mem
  have hh := hm.head h
  rw [head_at (hm.sz h)] at hh
  simp only [Option.some.injEq] at hh
  rw [em, head_tr h] at hh
  have a1 : 0 ≤ (-c) % n := Int.emod_nonneg _ (by omega)
  have a2 : (-c) % n < n := Int.emod_lt_of_pos _ (by omega)
  obtain ⟨i, hi⟩ : ∃ i : Nat, (-c) % n = i := ⟨((-c) % n).toNat, by omega⟩
  refine ⟨i, by omega, ?_⟩
  have hai : atN g.1 (i : Int) = atN g.1 (-c) := atN_mod _ (by rw [h.sz.1, ← hi, Int.emod_emod_of_dvd _ (Int.dvd_refl _)])
  rw [em]
  refine tr_mod h ?_ ?_
  · rw [Int.emod_eq_emod_iff_emod_sub_eq_zero]
    have : ((-c) - i) % n = 0 := Int.emod_eq_emod_iff_emod_sub_eq_zero.1 (by rw [hi, Int.emod_eq_of_lt (by omega) (by omega)])
    have h2 := Int.emod_eq_zero_of_dvd (Int.dvd_neg.2 (Int.dvd_of_emod_eq_zero this))
    rwa [show -(-c - (i : Int)) = c - -i by omega] at h2
  · rw [hai, Int.emod_eq_emod_iff_emod_sub_eq_zero, show r - -atN g.1 (-c) = atN g.1 (-c) + r by omega]
    exact hh
theorem candL_least {n : Nat} {g : Gr} (h : Rg n g) : best (Go.Proofs.YtadelcikpkhclaaDoor.cand g 0) (candL g) = leastG g := by
  have hc : ∀ i, Sz n (Go.Proofs.YtadelcikpkhclaaDoor.cand g i) := fun i => (h.tr _ _).sz
  have hL : ∀ s ∈ candL g, Sz n s := fun s hs => by
    simp only [candL, List.mem_map] at hs
    obtain ⟨i, _, rfl⟩ := hs
    exact hc _
  obtain ⟨h1, h2, h3⟩ := best_least (candL g) (Go.Proofs.YtadelcikpkhclaaDoor.cand g 0) (hc 0) hL
  have hm := leastG_is h
  obtain ⟨i, hi, e⟩ := hm.cand h
  refine least_one h1 (hm.sz h).sz ?_ ?_
  · have key : ∃ i, best (Go.Proofs.YtadelcikpkhclaaDoor.cand g 0) (candL g) = Go.Proofs.YtadelcikpkhclaaDoor.cand g i := by
      rcases best_mem (candL g) (Go.Proofs.YtadelcikpkhclaaDoor.cand g 0) with e | e
      · exact ⟨0, e⟩
      · simp only [candL, List.mem_map] at e
        obtain ⟨j, _, e⟩ := e
        exact ⟨_, e.symm⟩
    obtain ⟨j, ej⟩ := key
    rw [ej]
    exact hm.le _ _
  · rw [e]
    match i, hi with
    | 0, _ => exact h2
    | i + 1, hi => exact h3 _ (by simp only [candL, List.mem_map, List.mem_range, h.sz.1]; exact ⟨i, by omega, rfl⟩)
end Go.Proofs.YtadelcikpkhclaaDoor
