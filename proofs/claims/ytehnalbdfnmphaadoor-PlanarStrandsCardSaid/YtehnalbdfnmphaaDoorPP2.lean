/- Planar codes, plainly: labels that pair half-edges. -/
import Derived.Test.YtehnalbdfnmphaaDoorPP1
import Derived.Test.YtehnalbdfnmphaaDoorCnt
import Derived.Test.YtehnalbdfnmphaaDoorAb44
namespace Go.Proofs.YtehnalbdfnmphaaDoor
open Go.Ab
set_option linter.unusedVariables false

/-- The entries of one direction, those below H. -/
def dirE (S Lb : List Int) (b : Bool) (H : Nat) : List (Int × Int) := ((List.range H).filter fun h => outB S h == b).map fun h => (Lb.getD h 0, (h : Int))
theorem dirE_zero (S Lb : List Int) (b : Bool) : dirE S Lb b 0 = [] := rfl
theorem dirE_yes {S Lb : List Int} {b : Bool} {H : Nat} (h : outB S H = b) : dirE S Lb b (H + 1) = dirE S Lb b H ++ [(Lb.getD H 0, (H : Int))] := by
  simp [dirE, List.range_succ, h]
theorem dirE_no {S Lb : List Int} {b : Bool} {H : Nat} (h : outB S H = !b) : dirE S Lb b (H + 1) = dirE S Lb b H := by
  cases b <;> simp_all [dirE, List.range_succ]
theorem getI_some {S Lb : List Int} {b : Bool} {H : Nat} {k v : Int} (h : getI (dirE S Lb b H) k = some v) : ∃ g : Nat, g < H ∧ v = g ∧ outB S g = b ∧ Lb.getD g 0 = k := by
  unfold getI at h
  simp only [Option.map_eq_some_iff] at h
  obtain ⟨p, h1, h2⟩ := h
  have h3 := List.find?_some h1
  have h4 := List.mem_of_find?_eq_some h1
  obtain ⟨g, h5, rfl⟩ := List.mem_map.1 h4
  simp only [List.mem_filter, List.mem_range, beq_iff_eq] at h5
  exact ⟨g, h5.1, h2.symm, h5.2, by simpa using h3⟩
theorem getI_none {S Lb : List Int} {b : Bool} {H : Nat} {k : Int} : getI (dirE S Lb b H) k = none ↔ ∀ g, g < H → outB S g = b → Lb.getD g 0 ≠ k := by
  constructor
  · intro h g hg ho hk
    unfold getI at h
    simp only [Option.map_eq_none_iff] at h
    have := List.find?_eq_none.1 h (Lb.getD g 0, (g : Int)) (List.mem_map.2 ⟨g, by simp [hg, ho], rfl⟩)
    simp at this
    exact this hk
  · intro h
    cases hv : getI (dirE S Lb b H) k with
    | none => rfl
    | some v =>
      obtain ⟨g, h1, -, h2, h3⟩ := getI_some hv
      exact absurd h3 (h g h1 h2)

/-- No label twice in one direction, below H. -/
def ND (S Lb : List Int) (H : Nat) : Prop := ∀ h, h < H → ∀ g, g < h → outB S g = outB S h → Lb.getD g 0 ≠ Lb.getD h 0
theorem ND.zero (S Lb : List Int) : ND S Lb 0 := fun h hh => by omega
theorem ND.next {S Lb : List Int} {H : Nat} (h : ND S Lb H) (hn : getI (dirE S Lb (outB S H) H) (Lb.getD H 0) = none) : ND S Lb (H + 1) := fun h1 hh g hg ho => by
  by_cases e : h1 = H
  · subst e
    exact getI_none.1 hn g hg ho
  · exact h h1 (by omega) g hg ho
theorem ND.bad {S Lb : List Int} {H N : Nat} {v : Int} (hH : H < N) (hn : getI (dirE S Lb (outB S H) H) (Lb.getD H 0) = some v) : ¬ ND S Lb N := fun h => by
  obtain ⟨g, h1, -, h2, h3⟩ := getI_some hn
  exact h H hH g h1 h2 h3
theorem ND.ne {S Lb : List Int} {N g h : Nat} (hN : ND S Lb N) (hg : g < N) (hh : h < N) (hne : g ≠ h) (ho : outB S g = outB S h) : Lb.getD g 0 ≠ Lb.getD h 0 := by
  rcases Nat.lt_or_gt_of_ne hne with h1 | h1
  · exact hN h hh g h1 ho
  · exact fun e => hN g hg h h1 ho.symm e.symm
/-- The labels pair the half-edges: as the program asks. -/
def MA (S Lb : List Int) (N : Nat) : Prop := ND S Lb N ∧ ∀ h, h < N → outB S h = true → ∃ g, g < N ∧ outB S g = false ∧ Lb.getD g 0 = Lb.getD h 0
/-- g is the only other one of h's label, and of the other direction. -/
def Mt (S Lb : List Int) (N h g : Nat) : Prop := g < N ∧ g ≠ h ∧ Lb.getD g 0 = Lb.getD h 0 ∧ outB S g ≠ outB S h ∧ ∀ g', g' < N → g' ≠ h → Lb.getD g' 0 = Lb.getD h 0 → g' = g
/-- .. as the reference asks. -/
def MR (S Lb : List Int) (N : Nat) : Prop := ∀ h, h < N → ∃ g, Mt S Lb N h g
theorem MA.mt {S Lb : List Int} {N h g : Nat} (hN : ND S Lb N) (hh : h < N) (hg : g < N) (ho : outB S g ≠ outB S h) (hl : Lb.getD g 0 = Lb.getD h 0) : Mt S Lb N h g := by
  refine ⟨hg, fun e => ho (by rw [e]), hl, ho, fun g' h1 h2 h3 => ?_⟩
  apply Classical.byContradiction
  intro hne
  by_cases hd : outB S g' = outB S h
  · exact hN.ne h1 hh h2 hd h3
  · have : outB S g' = outB S g := by
      cases h4 : outB S g' <;> cases h5 : outB S g <;> cases h6 : outB S h <;> simp_all
    exact hN.ne h1 hg hne this (h3.trans hl.symm)
theorem MR.ma {S Lb : List Int} {N : Nat} (h : MR S Lb N) : MA S Lb N := by
  refine ⟨fun h1 hh g hg ho hl => ?_, fun h1 hh ho => ?_⟩
  · obtain ⟨p, p1, p2, p3, p4, p5⟩ := h h1 hh
    have := p5 g (by omega) (by omega) hl
    subst this
    exact p4 ho
  · obtain ⟨p, p1, p2, p3, p4, p5⟩ := h h1 hh
    exact ⟨p, p1, by rw [ho] at p4; simpa using p4, p3⟩
/-- As many incoming as outgoing. -/
theorem cnt_two {xs : List Int} (hs : ∀ x ∈ xs, Sgn x) : ((List.range (4 * xs.length)).filter fun h => outB xs h == true).length = 2 * xs.length ∧ ((List.range (4 * xs.length)).filter fun h => outB xs h == false).length = 2 * xs.length := by
  have h1 := cntO_four hs xs.length (Nat.le_refl _)
  have e1 : ((List.range (4 * xs.length)).filter fun h => outB xs h == true) = (List.range (4 * xs.length)).filter (outB xs) := by
    congr 1; funext h; simp
  have e2 : ∀ l : List Nat, (l.filter (outB xs)).length + (l.filter fun h => outB xs h == false).length = l.length := by
    intro l
    induction l with
    | nil => rfl
    | cons a l ih =>
      rw [List.filter_cons, List.filter_cons]
      cases h : outB xs a
      · rw [if_neg (by decide), if_pos (by decide)]
        simp only [List.length_cons]; omega
      · rw [if_pos rfl, if_neg (by decide)]
        simp only [List.length_cons]; omega
  have h2 := e2 (List.range (4 * xs.length))
  rw [List.length_range] at h2
  unfold cntO at h1
  rw [e1]
  omega
theorem MA.mr {S Lb : List Int} (hs : ∀ x ∈ S, Sgn x) (h : MA S Lb (4 * S.length)) : MR S Lb (4 * S.length) := by
  obtain ⟨hN, hO⟩ := h
  obtain ⟨c1, c2⟩ := cnt_two hs
  have key : ∀ g, g < 4 * S.length → outB S g = false → ∃ h, h < 4 * S.length ∧ outB S h = true ∧ Lb.getD h 0 = Lb.getD g 0 := by
    intro g hg ho
    apply Classical.byContradiction
    intro hno
    let ins := (List.range (4 * S.length)).filter fun h => outB S h == false
    let outs := (List.range (4 * S.length)).filter fun h => outB S h == true
    let f : Nat → Nat := fun h => if hh : h < 4 * S.length ∧ outB S h = true then (hO h hh.1 hh.2).choose else 0
    have hf : ∀ h, h ∈ outs → f h < 4 * S.length ∧ outB S (f h) = false ∧ Lb.getD (f h) 0 = Lb.getD h 0 := fun h hh => by
      have h1 : h < 4 * S.length ∧ outB S h = true := by simpa [outs] using hh
      have e : f h = (hO h h1.1 h1.2).choose := dif_pos h1
      rw [e]
      exact (hO h h1.1 h1.2).choose_spec
    have hnd : (outs.map f).Nodup := by
      have h0 : outs.Nodup := List.Pairwise.filter _ List.nodup_range
      refine (List.pairwise_map.2 ?_)
      refine List.Pairwise.imp_of_mem ?_ h0
      intro a b ha hb hab e
      obtain ⟨a1, a2, a3⟩ := hf a ha
      obtain ⟨b1, b2, b3⟩ := hf b hb
      rw [e] at a3
      have ha' : a < 4 * S.length ∧ outB S a = true := by simpa [outs] using ha
      have hb' : b < 4 * S.length ∧ outB S b = true := by simpa [outs] using hb
      exact hN.ne ha'.1 hb'.1 hab (by rw [ha'.2, hb'.2]) (a3.symm.trans b3)
    have hsub : ∀ y ∈ g :: outs.map f, y ∈ ins := by
      intro y hy
      rcases List.mem_cons.1 hy with rfl | hy
      · simp [ins, hg, ho]
      · obtain ⟨h, hh, rfl⟩ := List.mem_map.1 hy
        obtain ⟨a1, a2, -⟩ := hf h hh
        simp [ins, a1, a2]
    have hnd2 : (g :: outs.map f).Nodup := by
      refine List.nodup_cons.2 ⟨fun hm => ?_, hnd⟩
      obtain ⟨h, hh, e⟩ := List.mem_map.1 hm
      obtain ⟨a1, a2, a3⟩ := hf h hh
      have h1 : h < 4 * S.length ∧ outB S h = true := by simpa [outs] using hh
      exact hno ⟨h, h1.1, h1.2, by rw [← a3, e]⟩
    have := fit_len hnd2 hsub
    simp only [List.length_cons, List.length_map] at this
    have e1 : outs.length = 2 * S.length := c1
    have e2 : ins.length = 2 * S.length := c2
    omega
  intro h hh
  cases ho : outB S h with
  | true =>
    obtain ⟨g, g1, g2, g3⟩ := hO h hh ho
    exact ⟨g, MA.mt hN hh g1 (by rw [g2, ho]; simp) g3⟩
  | false =>
    obtain ⟨g, g1, g2, g3⟩ := key h hh ho
    exact ⟨g, MA.mt hN hh g1 (by rw [g2, ho]; simp) g3⟩
/-- The mates. -/
def mtL (S Lb : List Int) (N : Nat) : List Int := (List.range N).map fun h => (getI (dirE S Lb (!outB S h) N) (Lb.getD h 0)).getD 0
theorem mtL_len (S Lb : List Int) (N : Nat) : (mtL S Lb N).length = N := by simp [mtL]
theorem mtL_get {S Lb : List Int} {N h g : Nat} (hh : h < N) (hm : Mt S Lb N h g) : (mtL S Lb N)[h]? = some (g : Int) := by
  obtain ⟨g1, g2, g3, g4, g5⟩ := hm
  simp only [mtL, List.getElem?_map, List.getElem?_range hh, Option.map_some, Option.some.injEq]
  have ho : outB S g = !outB S h := by cases h1 : outB S g <;> cases h2 : outB S h <;> simp_all
  cases hv : getI (dirE S Lb (!outB S h) N) (Lb.getD h 0) with
  | none => exact absurd g3 (getI_none.1 hv g g1 ho)
  | some v =>
    obtain ⟨g', h1, rfl, h2, h3⟩ := getI_some hv
    have := g5 g' h1 (fun e => by rw [e] at h2; cases h5 : outB S h <;> rw [h5] at h2 <;> exact absurd h2 (by decide)) h3
    rw [this]; rfl

/-! ### What a planar code means -/
def sgR (rows : List (Int × List Int)) : List Int := rows.map (·.1)
def lbR (rows : List (Int × List Int)) : List Int := (rows.map (·.2)).flatten
open Classical in
noncomputable def parR (s : List UInt8) : DR :=
  if 65536 < s.length then .err 5 else
  match linL (spl 10 s) [] with
  | none => .err 3
  | some (rows, l) =>
    if 64 < rows.length ∨ 64 < l then .err 5 else
    if MA (sgR rows) (lbR rows) (4 * rows.length) then
      if PV (sgR rows) (mtL (sgR rows) (lbR rows) (4 * rows.length)) l then .ok (sgR rows) (mtL (sgR rows) (lbR rows) (4 * rows.length)) l.toNat else .err 7
    else .err 3
end Go.Proofs.YtehnalbdfnmphaaDoor
