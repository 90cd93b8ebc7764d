/- Plain law: orbits, their number, and that a renumbering keeps it. -/
import Derived.Test.YtadelcikpkhclaaDoorGP2
namespace Go.Proofs.YtadelcikpkhclaaDoor
set_option linter.unusedVariables false

def it (f : Nat → Nat) : Nat → Nat → Nat
  | 0, h => h
  | k + 1, h => f (it f k h)
theorem it_add (f : Nat → Nat) (h : Nat) : ∀ a b, it f (a + b) h = it f a (it f b h)
  | 0, b => by simp [it]
  | a + 1, b => by rw [show a + 1 + b = (a + b) + 1 by omega]; simp [it, it_add f h a b]
theorem it_mul {f : Nat → Nat} {h k : Nat} (hk : it f k h = h) : ∀ m, it f (m * k) h = h
  | 0 => by simp [it]
  | m + 1 => by rw [Nat.succ_mul, it_add, hk, it_mul hk m]
def Inj (n : Nat) (f : Nat → Nat) : Prop := ∀ a b, a < n → b < n → f a = f b → a = b
theorem it_lt {n : Nat} {f : Nat → Nat} (hl : ∀ h, h < n → f h < n) {h : Nat} (hh : h < n) : ∀ m, it f m h < n
  | 0 => hh
  | m + 1 => hl _ (it_lt hl hh m)
theorem it_cancel {n : Nat} {f : Nat → Nat} (hi : Inj n f) (hl : ∀ h, h < n → f h < n) {h : Nat} (hh : h < n) : ∀ a b, it f a h = it f (a + b) h → it f b h = h
  | 0, b, he => by simpa [it] using he.symm
  | a + 1, b, he => by
    refine it_cancel hi hl hh a b (hi _ _ (it_lt hl hh a) (it_lt hl hh _) ?_)
    rw [show a + 1 + b = (a + b) + 1 by omega] at he
    exact he
theorem it_back {n : Nat} {f : Nat → Nat} (hi : Inj n f) (hl : ∀ h, h < n → f h < n) {h : Nat} (hh : h < n) : ∃ j, 1 ≤ j ∧ j ≤ n ∧ it f j h = h := by
  refine Classical.byContradiction fun hc => ?_
  have hnd : ((List.range (n + 1)).map fun j => it f j h).Nodup := by
    unfold List.Nodup
    rw [List.pairwise_map]
    refine List.Pairwise.imp_of_mem (R := fun a b => a < b) ?_ List.pairwise_lt_range
    intro a b ha hb hab he
    simp only [List.mem_range] at ha hb
    refine hc ⟨b - a, by omega, by omega, it_cancel hi hl hh a (b - a) ?_⟩
    rw [show a + (b - a) = b by omega]
    exact he
  have := fit_len (T := List.range n) hnd (fun y hy => by
    simp only [List.mem_map] at hy
    obtain ⟨j, _, rfl⟩ := hy
    simpa using it_lt hl hh j)
  simp at this
  omega

/-- From i one comes to j. -/
def Rch (f : Nat → Nat) (i j : Nat) : Prop := ∃ m, it f m i = j
theorem Rch.refl (f : Nat → Nat) (i : Nat) : Rch f i i := ⟨0, rfl⟩
theorem Rch.trans {f : Nat → Nat} {i j k : Nat} (h1 : Rch f i j) (h2 : Rch f j k) : Rch f i k := by
  obtain ⟨a, rfl⟩ := h1
  obtain ⟨b, rfl⟩ := h2
  exact ⟨b + a, it_add f i b a⟩
theorem Rch.step (f : Nat → Nat) (i : Nat) : Rch f i (f i) := ⟨1, rfl⟩
theorem Rch.lt {n : Nat} {f : Nat → Nat} (hl : ∀ h, h < n → f h < n) {i j : Nat} (hi : i < n) (h : Rch f i j) : j < n := by
  obtain ⟨m, rfl⟩ := h
  exact it_lt hl hi m
theorem Rch.symm {n : Nat} {f : Nat → Nat} (hi : Inj n f) (hl : ∀ h, h < n → f h < n) {i j : Nat} (hh : i < n) (h : Rch f i j) : Rch f j i := by
  obtain ⟨m, rfl⟩ := h
  obtain ⟨p, h1, h2, h3⟩ := it_back hi hl hh
  refine ⟨m * p - m, ?_⟩
  rw [← it_add, show m * p - m + m = m * p by have : m * 1 ≤ m * p := Nat.mul_le_mul_left m h1; omega]
  exact it_mul h3 m

/-- The first of its orbit. -/
def First (f : Nat → Nat) (s : Nat) : Prop := ∀ i, i < s → ¬ Rch f i s
open Classical in
noncomputable def firsts (f : Nat → Nat) (n : Nat) : List Nat := (List.range n).filter fun s => decide (First f s)
noncomputable def orbs (f : Nat → Nat) (n : Nat) : Nat := (firsts f n).length
theorem firsts_mem {f : Nat → Nat} {n s : Nat} : s ∈ firsts f n ↔ s < n ∧ First f s := by simp [firsts]
theorem firsts_nodup (f : Nat → Nat) (n : Nat) : (firsts f n).Nodup := List.Nodup.sublist List.filter_sublist List.nodup_range
theorem orbs_succ (f : Nat → Nat) (n : Nat) : (First f n → orbs f (n + 1) = orbs f n + 1) ∧ (¬ First f n → orbs f (n + 1) = orbs f n) := by
  constructor
  · intro h; simp [orbs, firsts, List.range_succ, h]
  · intro h; simp [orbs, firsts, List.range_succ, h]
theorem orbs_le (f : Nat → Nat) : ∀ n, orbs f n ≤ n := fun n => by
  have := List.length_filter_le (fun s => @decide (First f s) (Classical.propDecidable _)) (List.range n)
  simpa [orbs, firsts] using this
theorem first_ex (f : Nat → Nat) (s : Nat) : ∃ r, r ≤ s ∧ First f r ∧ Rch f r s := by
  induction s using Nat.strongRecOn with
  | _ s ih =>
    by_cases h : First f s
    · exact ⟨s, Nat.le_refl _, h, Rch.refl f s⟩
    · have : ∃ i, i < s ∧ Rch f i s := Classical.byContradiction fun hc => h fun i hi hr => hc ⟨i, hi, hr⟩
      obtain ⟨i, hi, hr⟩ := this
      obtain ⟨r, h1, h2, h3⟩ := ih i hi
      exact ⟨r, by omega, h2, h3.trans hr⟩
theorem first_uniq {n : Nat} {f : Nat → Nat} (hi : Inj n f) (hl : ∀ h, h < n → f h < n) {a b s : Nat} (ha : a < n) (hb : b < n) (h1 : First f a) (h2 : First f b) (r1 : Rch f a s) (r2 : Rch f b s) : a = b := by
  have r3 : Rch f a b := r1.trans (r2.symm hi hl hb)
  have r4 : Rch f b a := r2.trans (r1.symm hi hl ha)
  rcases Nat.lt_trichotomy a b with h | h | h
  · exact (h2 a h r3).elim
  · exact h
  · exact (h1 b h r4).elim

/-- A renumbering. -/
structure Ren (n : Nat) (f g s : Nat → Nat) : Prop where
  lt : ∀ i, i < n → s i < n
  inj : Inj n s
  to : ∀ i, i < n → g (s i) = s (f i)
theorem Ren.it {n : Nat} {f g s : Nat → Nat} (h : Ren n f g s) (hl : ∀ h, h < n → f h < n) {i : Nat} (hi : i < n) : ∀ m, Go.Proofs.YtadelcikpkhclaaDoor.it g m (s i) = s (Go.Proofs.YtadelcikpkhclaaDoor.it f m i)
  | 0 => rfl
  | m + 1 => by
    show g (Go.Proofs.YtadelcikpkhclaaDoor.it g m (s i)) = _
    rw [h.it hl hi m, h.to _ (it_lt hl hi m)]
    rfl
theorem Ren.rch {n : Nat} {f g s : Nat → Nat} (h : Ren n f g s) (hl : ∀ h, h < n → f h < n) {i j : Nat} (hi : i < n) (hj : j < n) : Rch g (s i) (s j) → Rch f i j := by
  rintro ⟨m, hm⟩
  rw [h.it hl hi m] at hm
  exact ⟨m, h.inj _ _ (it_lt hl hi m) hj hm⟩
theorem Ren.le {n : Nat} {f g s : Nat → Nat} (h : Ren n f g s) (hf : Inj n f) (lf : ∀ h, h < n → f h < n) (hg : Inj n g) (lg : ∀ h, h < n → g h < n) : orbs f n ≤ orbs g n := by
  have hc : ∀ r, ∃ q, r < n → q < n ∧ First g q ∧ Rch g q (s r) := fun r => by
    by_cases hr : r < n
    · obtain ⟨q, h1, h2, h3⟩ := first_ex g (s r)
      exact ⟨q, fun _ => ⟨by have := h.lt r hr; omega, h2, h3⟩⟩
    · exact ⟨0, fun h => (hr h).elim⟩
  obtain ⟨q, hq⟩ := Classical.axiomOfChoice hc
  have hnd : ((firsts f n).map q).Nodup := by
    unfold List.Nodup
    rw [List.pairwise_map]
    refine List.Pairwise.imp_of_mem (R := fun a b => a ≠ b) ?_ (firsts_nodup f n)
    intro a b ha hb hab he
    obtain ⟨a1, a2⟩ := firsts_mem.1 ha
    obtain ⟨b1, b2⟩ := firsts_mem.1 hb
    obtain ⟨c1, c2, c3⟩ := hq a a1
    obtain ⟨d1, d2, d3⟩ := hq b b1
    rw [he] at c3
    have r1 : Rch g (s a) (s b) := (c3.symm hg lg d1).trans d3
    have r2 := h.rch lf a1 b1 r1
    exact hab (first_uniq hf lf a1 b1 a2 b2 r2 (Rch.refl f b))
  have := fit_len (T := firsts g n) hnd (fun y hy => by
    simp only [List.mem_map] at hy
    obtain ⟨r, hr, rfl⟩ := hy
    obtain ⟨h1, h2, _⟩ := hq r (firsts_mem.1 hr).1
    exact firsts_mem.2 ⟨h1, h2⟩)
  simpa [orbs] using this
/-- A one to one map of the numbers below n meets each. -/
theorem inj_onto {n : Nat} {s : Nat → Nat} (hi : Inj n s) (hl : ∀ i, i < n → s i < n) {j : Nat} (hj : j < n) : ∃ i, i < n ∧ s i = j := by
  obtain ⟨k, h1, h2, h3⟩ := it_back hi hl hj
  refine ⟨it s (k - 1) j, it_lt hl hj _, ?_⟩
  have : it s (k - 1 + 1) j = j := by rwa [show k - 1 + 1 = k by omega]
  exact this
theorem Ren.orbs {n : Nat} {f g s : Nat → Nat} (h : Ren n f g s) (hf : Inj n f) (lf : ∀ h, h < n → f h < n) (hg : Inj n g) (lg : ∀ h, h < n → g h < n) : orbs f n = orbs g n := by
  have hc : ∀ j, ∃ i, j < n → i < n ∧ s i = j := fun j => by
    by_cases hj : j < n
    · obtain ⟨i, h1, h2⟩ := inj_onto h.inj h.lt hj
      exact ⟨i, fun _ => ⟨h1, h2⟩⟩
    · exact ⟨0, fun h => (hj h).elim⟩
  obtain ⟨t, ht⟩ := Classical.axiomOfChoice hc
  have hr : Ren n g f t := by
    refine ⟨fun j hj => (ht j hj).1, fun a b ha hb e => ?_, fun j hj => ?_⟩
    · rw [← (ht a ha).2, e, (ht b hb).2]
    · obtain ⟨h1, h2⟩ := ht j hj
      have h3 := h.to (t j) h1
      rw [h2] at h3
      obtain ⟨h4, h5⟩ := ht (g j) (lg j hj)
      exact (h.inj _ _ h4 (lf _ h1) (h5.trans h3)).symm
  exact Nat.le_antisymm (h.le hf lf hg lg) (hr.le hg lg hf lf)

/-! ### A grid diagram's step: to the column of the X in the row of the O -/
def col (xs : List Int) (r : Int) : Nat := xs.idxOf r
theorem col_get {xs : List Int} {r : Int} (h : r ∈ xs) : xs[col xs r]? = some r := by
  have hl : xs.idxOf r < xs.length := List.idxOf_lt_length_iff.2 h
  rw [col, List.getElem?_eq_getElem hl, List.getElem_idxOf hl]
theorem col_lt {xs : List Int} {r : Int} (h : r ∈ xs) : col xs r < xs.length := List.idxOf_lt_length_iff.2 h
theorem col_of {xs : List Int} {i : Nat} {r : Int} (hn : xs.Nodup) (h : xs[i]? = some r) : col xs r = i := by
  obtain ⟨hl, e⟩ := List.getElem?_eq_some_iff.1 h
  have := hn.idxOf_getElem i hl
  rw [e] at this
  exact this
def stp (g : Gr) (i : Nat) : Nat := col g.1 (atN g.2 i)
noncomputable def comp (g : Gr) : Nat := orbs (stp g) g.1.length

/-- A valid grid diagram. -/
structure Vd (n : Nat) (g : Gr) : Prop where
  rg : Rg n g
  n1 : g.1.Nodup
  n2 : g.2.Nodup
theorem Vd.mem1 {n : Nat} {g : Gr} (h : Vd n g) {x : Int} (hx : In01 n x) : x ∈ g.1 := by
  have := (perm_iff g.1).1 ⟨by rw [h.rg.sz.1]; exact h.rg.r1, h.n1⟩ x.toNat (by rw [h.rg.sz.1]; unfold In01 at hx; omega)
  rwa [Int.toNat_of_nonneg hx.1] at this
theorem Vd.mem2 {n : Nat} {g : Gr} (h : Vd n g) {x : Int} (hx : In01 n x) : x ∈ g.2 := by
  have := (perm_iff g.2).1 ⟨by rw [h.rg.sz.2]; exact h.rg.r2, h.n2⟩ x.toNat (by rw [h.rg.sz.2]; unfold In01 at hx; omega)
  rwa [Int.toNat_of_nonneg hx.1] at this
theorem Vd.g1 {n : Nat} {g : Gr} (h : Vd n g) {i : Nat} (hi : i < n) : g.1[i]? = some (atN g.1 i) := atN_get (by rw [h.rg.sz.1]; exact hi)
theorem Vd.g2 {n : Nat} {g : Gr} (h : Vd n g) {i : Nat} (hi : i < n) : g.2[i]? = some (atN g.2 i) := atN_get (by rw [h.rg.sz.2]; exact hi)
theorem Vd.in1 {n : Nat} {g : Gr} (h : Vd n g) {i : Nat} (hi : i < n) : In01 n (atN g.1 i) := h.rg.r1 _ (List.mem_of_getElem? (h.g1 hi))
theorem Vd.in2 {n : Nat} {g : Gr} (h : Vd n g) {i : Nat} (hi : i < n) : In01 n (atN g.2 i) := h.rg.r2 _ (List.mem_of_getElem? (h.g2 hi))
theorem Vd.stp {n : Nat} {g : Gr} (h : Vd n g) {i : Nat} (hi : i < n) : stp g i < n ∧ g.1[stp g i]? = some (atN g.2 i) := by
  have hm := h.mem1 (h.in2 hi)
  exact ⟨by rw [← h.rg.sz.1]; exact col_lt hm, col_get hm⟩
theorem Vd.stp_lt {n : Nat} {g : Gr} (h : Vd n g) : ∀ i, i < n → Go.Proofs.YtadelcikpkhclaaDoor.stp g i < n := fun i hi => (h.stp hi).1
theorem nd_inj {xs : List Int} (hn : xs.Nodup) {i j : Nat} {x : Int} (h1 : xs[i]? = some x) (h2 : xs[j]? = some x) : i = j := (col_of hn h1).symm.trans (col_of hn h2)
theorem Vd.stp_inj {n : Nat} {g : Gr} (h : Vd n g) : Inj n (Go.Proofs.YtadelcikpkhclaaDoor.stp g) := fun a b ha hb e => by
  have h1 := (h.stp ha).2
  have h2 := (h.stp hb).2
  rw [e, h2] at h1
  have h3 := h.g2 ha
  rw [← Option.some.inj h1] at h3
  exact nd_inj h.n2 h3 (h.g2 hb)
/-- How the steps of two grid diagrams go together. -/
theorem Vd.ren {n : Nat} {g g' : Gr} (h : Vd n g) (h' : Vd n g') {s : Nat → Nat} (hl : ∀ i, i < n → s i < n) (hi : Inj n s) (ht : ∀ i j, i < n → j < n → atN g.1 j = atN g.2 i → atN g'.1 (s j) = atN g'.2 (s i)) : comp g' = comp g := by
  have hr : Ren n (Go.Proofs.YtadelcikpkhclaaDoor.stp g) (Go.Proofs.YtadelcikpkhclaaDoor.stp g') s := by
    refine ⟨hl, hi, fun i hi' => ?_⟩
    obtain ⟨h1, h2⟩ := h.stp hi'
    rw [h.g1 h1] at h2
    have h3 := ht i _ hi' h1 (Option.some.inj h2)
    have h4 := h'.g1 (hl _ h1)
    rw [h3] at h4
    exact col_of h'.n1 h4
  have := hr.orbs h.stp_inj h.stp_lt h'.stp_inj h'.stp_lt
  rw [comp, comp, h.rg.sz.1, h'.rg.sz.1, this]
end Go.Proofs.YtadelcikpkhclaaDoor
