/- Plain law: the rotation; what rotations and translations keep; crossings. -/
import Derived.Test.YtadelcikpkhclaaDoorGP3
namespace Go.Proofs.YtadelcikpkhclaaDoor
set_option linter.unusedVariables false

/-- Valid, in Vd's words. -/
structure Vg (n : Nat) (g : Gr) : Prop where
  vd : Vd n g
  two : 2 ≤ n
  few : n ≤ 40
  df : ∀ i, i < n → atN g.1 i ≠ atN g.2 i

/-! ### Translations -/
theorem atN_in {xs : List Int} {n : Nat} (h0 : 0 < n) (hl : xs.length = n) (k : Int) : ∃ i, i < n ∧ k % n = i ∧ atN xs k = atN xs i := by
  have a1 : 0 ≤ k % n := Int.emod_nonneg _ (by omega)
  have a2 : k % n < n := Int.emod_lt_of_pos _ (by omega)
  refine ⟨(k % n).toNat, by omega, by omega, atN_mod xs ?_⟩
  rw [hl, Int.toNat_of_nonneg a1, Int.emod_emod_of_dvd _ (Int.dvd_refl _)]
theorem mod_inj {n : Nat} {a b r : Int} (ha : In01 n a) (hb : In01 n b) (h : (a + r) % n = (b + r) % n) : a = b := by
  have h4 := Int.emod_eq_emod_iff_emod_sub_eq_zero.1 h
  rw [show a + r - (b + r) = a - b by omega] at h4
  unfold In01 at ha hb
  rcases Int.lt_or_le a b with h | h
  · have h5 := Int.emod_eq_zero_of_dvd (Int.dvd_neg.2 (Int.dvd_of_emod_eq_zero h4))
    rw [show -(a - b) = b - a by omega, Int.emod_eq_of_lt (by omega) (by omega)] at h5
    omega
  · rw [Int.emod_eq_of_lt (by omega) (by omega)] at h4
    omega
theorem shf_nodup {n : Nat} {xs : List Int} (h0 : 0 < n) (hl : xs.length = n) (hr : ∀ x ∈ xs, In01 n x) (hn : xs.Nodup) (c r : Int) : (shf c r xs).Nodup := by
  have hp : PermP xs := ⟨by rw [hl]; exact hr, hn⟩
  have hall := (perm_iff xs).1 hp
  refine ((perm_iff (shf c r xs)).2 fun k hk => ?_).2
  rw [shf_len, hl] at hk
  have a1 : 0 ≤ ((k : Int) - r) % n := Int.emod_nonneg _ (by omega)
  have a2 : ((k : Int) - r) % n < n := Int.emod_lt_of_pos _ (by omega)
  have hm := hall (((k : Int) - r) % n).toNat (by omega)
  rw [Int.toNat_of_nonneg a1] at hm
  obtain ⟨i, hi, e⟩ := List.getElem_of_mem hm
  have e1 : atN xs i = ((k : Int) - r) % n := by
    have := atN_get hi
    rw [List.getElem?_eq_getElem hi, e] at this
    exact (Option.some.inj this).symm
  obtain ⟨j, hj, ej, _⟩ := atN_in h0 hl ((i : Int) + c)
  refine List.mem_of_getElem? (i := j) ?_
  rw [shf_get (by omega), hl]
  congr 1
  have e3 : atN xs ((j : Int) - c) = atN xs i := atN_mod xs (by rw [hl, ← ej, sub_mod_l, show (i : Int) + c - c = i by omega])
  rw [e3, e1, Int.emod_add_emod, show (k : Int) - r + r = k by omega, Int.emod_eq_of_lt (by omega) (by omega)]
theorem Vd.tr {n : Nat} {g : Gr} (h : Vd n g) (c r : Int) : Vd n (tr c r g) :=
  ⟨h.rg.tr c r, shf_nodup h.rg.pos h.rg.sz.1 h.rg.r1 h.n1 c r, shf_nodup h.rg.pos h.rg.sz.2 h.rg.r2 h.n2 c r⟩
theorem tr_at1 {n : Nat} {g : Gr} (h : Rg n g) (c r k : Int) : atN (tr c r g).1 k = (atN g.1 (k - c) + r) % n := by
  simp only [Go.Proofs.YtadelcikpkhclaaDoor.tr]
  rw [atN_shf (by rw [h.sz.1]; exact h.pos), h.sz.1]
theorem tr_at2 {n : Nat} {g : Gr} (h : Rg n g) (c r k : Int) : atN (tr c r g).2 k = (atN g.2 (k - c) + r) % n := by
  simp only [Go.Proofs.YtadelcikpkhclaaDoor.tr]
  rw [atN_shf (by rw [h.sz.2]; exact h.pos), h.sz.2]
theorem Vg.tr {n : Nat} {g : Gr} (h : Vg n g) (c r : Int) : Vg n (tr c r g) := by
  refine ⟨h.vd.tr c r, h.two, h.few, fun i hi e => ?_⟩
  have h0 := h.vd.rg.pos
  rw [tr_at1 h.vd.rg, tr_at2 h.vd.rg] at e
  obtain ⟨j, hj, ej, _⟩ := atN_in h0 h.vd.rg.sz.1 ((i : Int) - c)
  rw [atN_mod g.1 (show ((i : Int) - c) % g.1.length = (j : Int) % g.1.length by rw [h.vd.rg.sz.1, ej, Int.emod_eq_of_lt (by omega) (by omega)]),
    atN_mod g.2 (show ((i : Int) - c) % g.2.length = (j : Int) % g.2.length by rw [h.vd.rg.sz.2, ej, Int.emod_eq_of_lt (by omega) (by omega)])] at e
  exact h.df j hj (mod_inj (h.vd.in1 hj) (h.vd.in2 hj) e)
theorem Vd.comp_tr {n : Nat} {g : Gr} (h : Vd n g) (c r : Int) : comp (Go.Proofs.YtadelcikpkhclaaDoor.tr c r g) = comp g := by
  have h0 := h.rg.pos
  refine h.ren (h.tr c r) (s := fun i => (((i : Int) + c) % n).toNat) (fun i hi => ?_) (fun a b ha hb e => ?_) (fun i j hi hj e => ?_)
  · have a1 : 0 ≤ ((i : Int) + c) % n := Int.emod_nonneg _ (by omega)
    have a2 : ((i : Int) + c) % n < n := Int.emod_lt_of_pos _ (by omega)
    omega
  · simp only at e
    have a1 : 0 ≤ ((a : Int) + c) % n := Int.emod_nonneg _ (by omega)
    have a2 : 0 ≤ ((b : Int) + c) % n := Int.emod_nonneg _ (by omega)
    have := mod_inj (n := n) (a := a) (b := b) (r := c) ⟨by omega, by omega⟩ ⟨by omega, by omega⟩ (by omega)
    omega
  · have key : ∀ k : Nat, ∀ xs : List Int, xs.length = n → atN xs (((((k : Int) + c) % n).toNat : Int) - c) = atN xs k := fun k xs hl => by
      have a1 : 0 ≤ ((k : Int) + c) % n := Int.emod_nonneg _ (by omega)
      refine atN_mod xs ?_
      rw [hl, Int.toNat_of_nonneg a1, sub_mod_l, show (k : Int) + c - c = k by omega]
    rw [tr_at1 h.rg, tr_at2 h.rg, key j g.1 h.rg.sz.1, key i g.2 h.rg.sz.2, e]

/-! ### The rotation -/
def turnL (xs : List Int) : List Int := (List.range xs.length).map fun k : Nat => (col xs ((xs.length : Int) - 1 - k) : Int)
def rotG (g : Gr) : Gr := (turnL g.2, turnL g.1)
theorem turnL_len (xs : List Int) : (turnL xs).length = xs.length := by simp [turnL]
theorem turnL_get {xs : List Int} {k : Nat} (h : k < xs.length) : (turnL xs)[k]? = some (col xs ((xs.length : Int) - 1 - k) : Int) := by simp [turnL, h]
theorem at_of {xs : List Int} {k : Nat} {x : Int} (h : xs[k]? = some x) : atN xs k = x := by
  have hl := (List.getElem?_eq_some_iff.1 h).1
  have := atN_get hl
  rw [h] at this
  exact (Option.some.inj this).symm
theorem turnL_at {xs : List Int} {n k : Nat} (hl : xs.length = n) (h : k < n) : atN (turnL xs) k = (col xs ((n : Int) - 1 - k) : Int) := by
  subst hl; exact at_of (turnL_get h)

/-- One list of a valid grid diagram. -/
structure Pm (n : Nat) (xs : List Int) : Prop where
  len : xs.length = n
  rg : ∀ x ∈ xs, In01 n x
  nd : xs.Nodup
theorem Vd.p1 {n : Nat} {g : Gr} (h : Vd n g) : Pm n g.1 := ⟨h.rg.sz.1, h.rg.r1, h.n1⟩
theorem Vd.p2 {n : Nat} {g : Gr} (h : Vd n g) : Pm n g.2 := ⟨h.rg.sz.2, h.rg.r2, h.n2⟩
theorem Pm.mem {n : Nat} {xs : List Int} (h : Pm n xs) {x : Int} (hx : In01 n x) : x ∈ xs := by
  have := (perm_iff xs).1 ⟨by rw [h.len]; exact h.rg, h.nd⟩ x.toNat (by rw [h.len]; unfold In01 at hx; omega)
  rwa [Int.toNat_of_nonneg hx.1] at this
theorem Pm.get {n : Nat} {xs : List Int} (h : Pm n xs) {i : Nat} (hi : i < n) : xs[i]? = some (atN xs i) := atN_get (by rw [h.len]; exact hi)
theorem Pm.in {n : Nat} {xs : List Int} (h : Pm n xs) {i : Nat} (hi : i < n) : In01 n (atN xs i) := h.rg _ (List.mem_of_getElem? (h.get hi))
theorem Pm.col_lt {n : Nat} {xs : List Int} (h : Pm n xs) {x : Int} (hx : In01 n x) : col xs x < n := by rw [← h.len]; exact Go.Proofs.YtadelcikpkhclaaDoor.col_lt (h.mem hx)
theorem Pm.at_col {n : Nat} {xs : List Int} (h : Pm n xs) {x : Int} (hx : In01 n x) : atN xs (col xs x) = x := at_of (col_get (h.mem hx))
theorem Pm.col_at {n : Nat} {xs : List Int} (h : Pm n xs) {i : Nat} (hi : i < n) : col xs (atN xs i) = i := col_of h.nd (h.get hi)
theorem Pm.inj {n : Nat} {xs : List Int} (h : Pm n xs) {i j : Nat} (hi : i < n) (hj : j < n) (e : atN xs i = atN xs j) : i = j := by
  rw [← h.col_at hi, e, h.col_at hj]
theorem Pm.turn {n : Nat} {xs : List Int} (h : Pm n xs) : Pm n (turnL xs) := by
  have hlen : (turnL xs).length = n := by rw [turnL_len, h.len]
  have hget : ∀ k, k < n → (turnL xs)[k]? = some (col xs ((n : Int) - 1 - k) : Int) := fun k hk => by rw [turnL_get (by rw [h.len]; exact hk), h.len]
  refine ⟨hlen, fun x hx => ?_, ?_⟩
  · obtain ⟨k, hk, rfl⟩ := List.getElem_of_mem hx
    have h1 := hget k (by omega)
    rw [List.getElem?_eq_getElem hk] at h1
    rw [Option.some.inj h1]
    have := h.col_lt (x := (n : Int) - 1 - k) ⟨by omega, by omega⟩
    exact ⟨by omega, by omega⟩
  · refine ((perm_iff (turnL xs)).2 fun k hk => ?_).2
    rw [hlen] at hk
    have hx := h.in hk
    unfold In01 at hx
    refine List.mem_of_getElem? (i := ((n : Int) - 1 - atN xs k).toNat) ?_
    rw [hget _ (by omega), show (n : Int) - 1 - (((n : Int) - 1 - atN xs k).toNat : Int) = atN xs k by omega, h.col_at hk]
theorem Pm.turn_at {n : Nat} {xs : List Int} (h : Pm n xs) {k : Nat} (hk : k < n) : atN (turnL xs) k = (col xs ((n : Int) - 1 - k) : Int) := turnL_at h.len hk
/-- Where the turned list has k. -/
theorem Pm.turn_col {n : Nat} {xs : List Int} (h : Pm n xs) {k : Nat} (hk : k < n) : (col (turnL xs) k : Int) = (n : Int) - 1 - atN xs k := by
  have hx := h.in hk
  unfold In01 at hx
  have h1 : atN (turnL xs) ((n : Int) - 1 - atN xs k).toNat = k := by
    rw [h.turn_at (by omega), show (n : Int) - 1 - (((n : Int) - 1 - atN xs k).toNat : Int) = atN xs k by omega, h.col_at hk]
  have := h.turn.col_at (i := ((n : Int) - 1 - atN xs k).toNat) (by omega)
  rw [h1] at this
  omega
theorem Pm.turn2 {n : Nat} {xs : List Int} (h : Pm n xs) {k : Nat} (hk : k < n) : atN (turnL (turnL xs)) k = (n : Int) - 1 - atN xs ((n : Int) - 1 - k) := by
  rw [h.turn.turn_at hk]
  have := h.turn_col (k := ((n : Int) - 1 - k).toNat) (by omega)
  rwa [Int.toNat_of_nonneg (by omega)] at this
theorem Pm.turn4 {n : Nat} {xs : List Int} (h : Pm n xs) : turnL (turnL (turnL (turnL xs))) = xs := by
  apply List.ext_getElem?
  intro k
  by_cases hk : k < n
  · rw [h.turn.turn.turn.turn.get hk, h.get hk, h.turn.turn.turn2 hk]
    have := h.turn2 (k := ((n : Int) - 1 - k).toNat) (by omega)
    rw [Int.toNat_of_nonneg (by omega)] at this
    rw [this, show (n : Int) - 1 - ((n : Int) - 1 - k) = k by omega]
    congr 1
    omega
  · rw [List.getElem?_eq_none (by rw [h.turn.turn.turn.turn.len]; omega), List.getElem?_eq_none (by rw [h.len]; omega)]
theorem Vd.of {n : Nat} {g : Gr} (h0 : 0 < n) (h1 : Pm n g.1) (h2 : Pm n g.2) : Vd n g := ⟨⟨h0, ⟨h1.len, h2.len⟩, h1.rg, h2.rg⟩, h1.nd, h2.nd⟩
theorem Vd.rot {n : Nat} {g : Gr} (h : Vd n g) : Vd n (rotG g) := Vd.of h.rg.pos h.p2.turn h.p1.turn
theorem Vg.rot {n : Nat} {g : Gr} (h : Vg n g) : Vg n (rotG g) := by
  refine ⟨h.vd.rot, h.two, h.few, fun i hi e => ?_⟩
  rw [show (rotG g).1 = turnL g.2 from rfl, show (rotG g).2 = turnL g.1 from rfl, h.vd.p1.turn_at hi, h.vd.p2.turn_at hi] at e
  have hr : In01 n ((n : Int) - 1 - i) := ⟨by omega, by omega⟩
  have e1 := h.vd.p1.at_col hr
  have e2 := h.vd.p2.at_col hr
  exact h.df _ (h.vd.p1.col_lt hr) (by rw [e1]; rw [e] at e2; exact e2.symm)
theorem rotG4 {n : Nat} {g : Gr} (h : Vd n g) : rotG (rotG (rotG (rotG g))) = g := Prod.ext h.p1.turn4 h.p2.turn4
theorem Vd.comp_rot {n : Nat} {g : Gr} (h : Vd n g) : comp (rotG g) = comp g := by
  refine h.ren h.rot (s := fun i => ((n : Int) - 1 - atN g.1 i).toNat) (fun i hi => ?_) (fun a b ha hb e => ?_) (fun i j hi hj e => ?_)
  · have := h.p1.in hi; unfold In01 at this; omega
  · simp only at e
    have h1 := h.p1.in ha
    have h2 := h.p1.in hb
    unfold In01 at h1 h2
    exact h.p1.inj ha hb (by omega)
  · have h1 := h.p1.in hi
    have h2 := h.p1.in hj
    unfold In01 at h1 h2
    rw [show (rotG g).1 = turnL g.2 from rfl, show (rotG g).2 = turnL g.1 from rfl]
    rw [h.p2.turn_at (by omega), h.p1.turn_at (by omega), show (n : Int) - 1 - (((n : Int) - 1 - atN g.1 i).toNat : Int) = atN g.1 i by omega, show (n : Int) - 1 - (((n : Int) - 1 - atN g.1 j).toNat : Int) = atN g.1 j by omega, h.p1.col_at hi, e, h.p2.col_at hi]
/-- The loop of the rotation leaves the turned list. -/
theorem scat_turn {n : Nat} {xs : List Int} (h : Pm n xs) : scat (List.replicate n 0) (fun i => ((n : Int) - 1 - atN xs i).toNat) (fun i => (i : Int)) n = turnL xs := by
  apply List.ext_getElem?
  intro k
  by_cases hk : k < n
  · have hr : In01 n ((n : Int) - 1 - k) := ⟨by omega, by omega⟩
    have hc := h.col_lt hr
    have hg := scat_get (b := List.replicate n 0) (f := fun i => ((n : Int) - 1 - atN xs i).toNat) (v := fun i => (i : Int)) (m := n) (fun a b ha hb e => by
      have h1 := h.in ha
      have h2 := h.in hb
      unfold In01 at h1 h2
      exact h.inj ha hb (by omega)) _ hc (by
        have := h.in hc
        unfold In01 at this
        simp; omega)
    rw [h.at_col hr, show ((n : Int) - 1 - ((n : Int) - 1 - (k : Int))).toNat = k by omega] at hg
    rw [hg, turnL_get (by rw [h.len]; exact hk), h.len]
  · rw [List.getElem?_eq_none (by simp [scat_len]; omega), List.getElem?_eq_none (by rw [turnL_len, h.len]; omega)]

/-! ### Crossings -/
def Cr (g : Gr) (i j : Nat) : Prop := min (atN g.1 i) (atN g.2 i) < j ∧ (j : Int) < max (atN g.1 i) (atN g.2 i) ∧ min (col g.1 j) (col g.2 j) < i ∧ i < max (col g.1 j) (col g.2 j)
instance (g : Gr) (i j : Nat) : Decidable (Cr g i j) := inferInstanceAs (Decidable (_ ∧ _))
/-- The crossings of a column. -/
def crC (g : Gr) (i : Nat) : List (Nat × Nat) := ((List.range g.1.length).filter fun j => decide (Cr g i j)).map fun j => (i, j)
def crs (g : Gr) : List (Nat × Nat) := (List.range g.1.length).flatMap (crC g)
theorem crC_mem {g : Gr} {i : Nat} {p : Nat × Nat} : p ∈ crC g i ↔ p.1 = i ∧ p.2 < g.1.length ∧ Cr g i p.2 := by
  simp only [crC, List.mem_map, List.mem_filter, List.mem_range, decide_eq_true_eq]
  constructor
  · rintro ⟨j, ⟨h1, h2⟩, rfl⟩; exact ⟨rfl, h1, h2⟩
  · rintro ⟨h1, h2, h3⟩; exact ⟨p.2, ⟨h2, h3⟩, by rw [← h1]⟩
theorem crs_mem {g : Gr} {p : Nat × Nat} : p ∈ crs g ↔ p.1 < g.1.length ∧ p.2 < g.1.length ∧ Cr g p.1 p.2 := by
  simp only [crs, List.mem_flatMap, List.mem_range, crC_mem]
  constructor
  · rintro ⟨i, h1, rfl, h2, h3⟩; exact ⟨h1, h2, h3⟩
  · rintro ⟨h1, h2, h3⟩; exact ⟨_, h1, rfl, h2, h3⟩
/-- Their order. -/
def Lt2 (p q : Nat × Nat) : Prop := p.1 < q.1 ∨ p.1 = q.1 ∧ p.2 < q.2
theorem crC_sorted (g : Gr) (i : Nat) : (crC g i).Pairwise Lt2 := by
  unfold crC
  rw [List.pairwise_map]
  refine List.Pairwise.imp (R := fun a b : Nat => a < b) (fun h => .inr ⟨rfl, h⟩) ?_
  exact List.Pairwise.sublist List.filter_sublist List.pairwise_lt_range
theorem flat_sorted (g : Gr) : ∀ m, ((List.range m).flatMap (crC g)).Pairwise Lt2
  | 0 => by simp
  | m + 1 => by
    rw [List.range_succ, List.flatMap_append, List.pairwise_append]
    refine ⟨flat_sorted g m, by simpa using crC_sorted g m, fun a ha b hb => ?_⟩
    simp only [List.mem_flatMap, List.mem_range, List.mem_cons, List.not_mem_nil, or_false, exists_eq_left] at ha hb
    obtain ⟨i, hi, hai⟩ := ha
    obtain ⟨e1, _⟩ := crC_mem.1 hai
    obtain ⟨e2, _⟩ := crC_mem.1 hb
    exact .inl (by omega)
theorem crs_sorted (g : Gr) : (crs g).Pairwise Lt2 := flat_sorted g _
theorem crs_nodup (g : Gr) : (crs g).Nodup := (crs_sorted g).imp (fun {a b} h e => by subst e; unfold Lt2 at h; omega)
theorem Vd.cr_rot {n : Nat} {g : Gr} (h : Vd n g) {i j : Nat} (hi : i < n) (hj : j < n) : Cr (rotG g) (n - 1 - j) i ↔ Cr g i j := by
  have x1 := h.p1.turn_col hi
  have x2 := h.p2.turn_col hi
  have y1 : atN (turnL g.1) ((n - 1 - j : Nat) : Int) = (col g.1 j : Int) := by rw [h.p1.turn_at (by omega), show (n : Int) - 1 - ((n - 1 - j : Nat) : Int) = j by omega]
  have y2 : atN (turnL g.2) ((n - 1 - j : Nat) : Int) = (col g.2 j : Int) := by rw [h.p2.turn_at (by omega), show (n : Int) - 1 - ((n - 1 - j : Nat) : Int) = j by omega]
  simp only [Cr, rotG, y1, y2]
  have i1 := h.p1.in hi
  have i2 := h.p2.in hi
  unfold In01 at i1 i2
  omega
theorem Vd.crs_rot {n : Nat} {g : Gr} (h : Vd n g) : (crs (rotG g)).length = (crs g).length := by
  have hn := h.rg.sz.1
  have hn' := h.rot.rg.sz.1
  refine Nat.le_antisymm ?_ ?_
  · have hnd : ((crs (rotG g)).map fun p => (p.2, n - 1 - p.1)).Nodup := by
      unfold List.Nodup
      rw [List.pairwise_map]
      refine List.Pairwise.imp_of_mem (R := fun a b => a ≠ b) ?_ (crs_nodup _)
      intro a b ha hb hab he
      obtain ⟨a1, a2, _⟩ := crs_mem.1 ha
      obtain ⟨b1, b2, _⟩ := crs_mem.1 hb
      simp only [Prod.mk.injEq] at he
      exact hab (Prod.ext (by omega) he.1)
    have := fit_len (T := crs g) hnd (fun y hy => by
      simp only [List.mem_map] at hy
      obtain ⟨p, hp, rfl⟩ := hy
      obtain ⟨a1, a2, a3⟩ := crs_mem.1 hp
      rw [hn'] at a1 a2
      refine crs_mem.2 ⟨by simp only; omega, by simp only; omega, ?_⟩
      have := (h.cr_rot (i := p.2) (j := n - 1 - p.1) a2 (by omega)).1
      rw [show n - 1 - (n - 1 - p.1) = p.1 by omega] at this
      exact this a3)
    simpa using this
  · have hnd : ((crs g).map fun p => (n - 1 - p.2, p.1)).Nodup := by
      unfold List.Nodup
      rw [List.pairwise_map]
      refine List.Pairwise.imp_of_mem (R := fun a b => a ≠ b) ?_ (crs_nodup _)
      intro a b ha hb hab he
      obtain ⟨a1, a2, _⟩ := crs_mem.1 ha
      obtain ⟨b1, b2, _⟩ := crs_mem.1 hb
      simp only [Prod.mk.injEq] at he
      exact hab (Prod.ext he.2 (by omega))
    have := fit_len (T := crs (rotG g)) hnd (fun y hy => by
      simp only [List.mem_map] at hy
      obtain ⟨p, hp, rfl⟩ := hy
      obtain ⟨a1, a2, a3⟩ := crs_mem.1 hp
      rw [hn] at a1 a2
      refine crs_mem.2 ⟨by rw [hn']; simp only; omega, by rw [hn']; simp only; omega, ?_⟩
      exact (h.cr_rot a1 a2).2 a3)
    simpa using this
end Go.Proofs.YtadelcikpkhclaaDoor
