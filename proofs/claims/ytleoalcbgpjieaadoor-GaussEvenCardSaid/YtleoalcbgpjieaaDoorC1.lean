/- As many orbits, if one map is carried over into the other. -/
import Derived.Test.YtleoalcbgpjieaaDoorS5
namespace Go.Proofs.YtleoalcbgpjieaaDoor
open Go.Ab
set_option linter.unusedVariables false

open Classical in
noncomputable def leastsF (f : Nat → Nat) (n : Nat) : List Nat := (List.range n).filter fun h => decide (Least f h)
theorem leastsF_mem {f : Nat → Nat} {n h : Nat} : h ∈ leastsF f n ↔ h < n ∧ Least f h := by
  unfold leastsF; simp [List.mem_filter]
theorem leasts_F (ms : List Int) (n : Nat) : leasts ms n = leastsF (phi ms) n := rfl
theorem it_lt {n : Nat} {f : Nat → Nat} (hl : ∀ h, h < n → f h < n) {h : Nat} (hh : h < n) : ∀ j, it f j h < n
  | 0 => hh
  | j + 1 => hl _ (it_lt hl hh j)
theorem it_conj {n : Nat} {f g s : Nat → Nat} (hl : ∀ h, h < n → f h < n) (hc : ∀ h, h < n → g (s h) = s (f h)) {h : Nat} (hh : h < n) : ∀ j, it g j (s h) = s (it f j h)
  | 0 => rfl
  | j + 1 => by
    show g (it g j (s h)) = s (f (it f j h))
    rw [it_conj hl hc hh j, hc _ (it_lt hl hh j)]
theorem orbits_le {n : Nat} {f g s : Nat → Nat} (hi : Inj n f) (hl : ∀ h, h < n → f h < n) (gi : Inj n g) (gl : ∀ h, h < n → g h < n) (sl : ∀ h, h < n → s h < n) (si : Inj n s) (hc : ∀ h, h < n → g (s h) = s (f h)) : (leastsF f n).length ≤ (leastsF g n).length := by
  have key : ∀ h, h < n → ∃ t, t < n ∧ Least g t ∧ ∃ j, it g j t = s h := fun h hh => by
    obtain ⟨t, j, h1, h2, h3⟩ := orb_least gi gl (s h) (sl h hh)
    exact ⟨t, h1, h2, j, h3⟩
  let k : Nat → Nat := fun h => if hh : h < n then (key h hh).choose else 0
  have kk : ∀ h, h < n → k h < n ∧ Least g (k h) ∧ ∃ j, it g j (k h) = s h := fun h hh => by
    have := (key h hh).choose_spec
    simp only [k, dif_pos hh]
    exact this
  have hnd : ((leastsF f n).map k).Nodup := by
    unfold List.Nodup
    rw [List.pairwise_map]
    have hp : (leastsF f n).Pairwise (· ≠ ·) := by
      unfold leastsF
      exact List.Pairwise.filter _ (List.nodup_range)
    refine List.Pairwise.imp_of_mem ?_ hp
    intro a b ha hb hab he
    obtain ⟨a1, a2⟩ := leastsF_mem.1 ha
    obtain ⟨b1, b2⟩ := leastsF_mem.1 hb
    obtain ⟨t1, t2, i, hi1⟩ := kk a a1
    obtain ⟨_, _, j, hj1⟩ := kk b b1
    rw [← he] at hj1
    have step : ∀ {x y p q : Nat}, x < n → y < n → it g p (k a) = s x → it g q (k a) = s y → ∃ r, it f r x = y := fun {x y p q} hx hy e1 e2 => by
      obtain ⟨r, hr⟩ := orb_symm gi gl t1 e1
      refine ⟨q + r, si _ _ (it_lt hl hx _) hy ?_⟩
      rw [← it_conj hl hc hx, it_add, hr, e2]
    obtain ⟨r1, h1⟩ := step a1 b1 hi1 hj1
    obtain ⟨r2, h2⟩ := step b1 a1 hj1 hi1
    have := a2 r1
    have := b2 r2
    omega
  have hsub := List.Nodup.length_le_of_subset hnd (l₂ := leastsF g n) (fun x hx => by
    obtain ⟨a, ha, rfl⟩ := List.mem_map.1 hx
    obtain ⟨a1, a2⟩ := leastsF_mem.1 ha
    obtain ⟨t1, t2, _⟩ := kk a a1
    exact leastsF_mem.2 ⟨t1, t2⟩)
  rw [List.length_map] at hsub
  exact hsub
/-- As many parts. -/
theorem parts_le {ms ms' ps ps' : List Int} {n P P' : Nat} (hp : Parts ms n ps P) (hq : Parts ms' n ps' P') {t : Nat → Nat} (tl : ∀ c, c < n → t c < n) (hr : ∀ c d, c < n → d < n → (∃ q, Reach ms' q (t c) (t d)) → ∃ q, Reach ms q c d) : P ≤ P' := by
  have key : ∀ p, p < P → ∃ c k : Nat, c < n ∧ ps.getD c 0 = (p : Int) ∧ ps'.getD (t c) 0 = (k : Int) ∧ k < P' := fun p hpP => by
    obtain ⟨c, h1, h2⟩ := hp.hit p hpP
    obtain ⟨k, h3, h4⟩ := hq.rng (t c) (tl c h1)
    exact ⟨c, k, h1, h2, h3, h4⟩
  let k : Nat → Nat := fun p => if h : p < P then (key p h).choose_spec.choose else 0
  have kk : ∀ p, p < P → ∃ c, c < n ∧ ps.getD c 0 = (p : Int) ∧ ps'.getD (t c) 0 = (k p : Int) ∧ k p < P' := fun p h => by
    refine ⟨(key p h).choose, ?_⟩
    have := (key p h).choose_spec.choose_spec
    simp only [k, dif_pos h]
    exact this
  have hnd : ((List.range P).map k).Nodup := by
    unfold List.Nodup
    rw [List.pairwise_map]
    refine List.Pairwise.imp_of_mem ?_ (List.nodup_range (n := P))
    intro a b ha hb hab he
    simp only [List.mem_range] at ha hb
    obtain ⟨c, c1, c2, c3, c4⟩ := kk a ha
    obtain ⟨d, d1, d2, d3, d4⟩ := kk b hb
    have h1 := (hq.same (t c) (t d) (tl c c1) (tl d d1)).1 (by rw [c3, d3, he])
    have h2 := (hp.same c d c1 d1).2 (hr c d c1 d1 h1)
    rw [c2, d2] at h2
    exact hab (by omega)
  have hsub := List.Nodup.length_le_of_subset hnd (l₂ := List.range P') (fun x hx => by
    obtain ⟨a, ha, rfl⟩ := List.mem_map.1 hx
    simp only [List.mem_range] at ha ⊢
    obtain ⟨c, c1, c2, c3, c4⟩ := kk a ha
    exact c4)
  rw [List.length_map, List.length_range, List.length_range] at hsub
  exact hsub
/-- A half-edge, its crossing renumbered. -/
def rnum (nu : Nat → Nat) (h : Nat) : Nat := 4 * nu (h / 4) + h % 4
theorem turn_rnum (nu : Nat → Nat) (h k : Nat) : turnN (rnum nu h) k = rnum nu (turnN h k) := by
  have e : turnN h k / 4 = h / 4 := by unfold turnN; omega
  have e2 : turnN h k % 4 = (h % 4 + k) % 4 := by unfold turnN; omega
  unfold rnum
  rw [e, e2]
  unfold turnN
  omega
theorem phi_rnum {ms ms' : List Int} {nu : Nat → Nat} {h : Nat} (hm : mateN ms' (rnum nu h) = rnum nu (mateN ms h)) : phi ms' (rnum nu h) = rnum nu (phi ms h) := by
  show turnN (mateN ms' (rnum nu h)) 3 = rnum nu (turnN (mateN ms h) 3)
  rw [hm, turn_rnum]
theorem psi_rnum {ms ms' : List Int} {nu : Nat → Nat} {h : Nat} (hm : mateN ms' (rnum nu h) = rnum nu (mateN ms h)) : psi ms' (rnum nu h) = rnum nu (psi ms h) := by
  show turnN (mateN ms' (rnum nu h)) 2 = rnum nu (turnN (mateN ms h) 2)
  rw [hm, turn_rnum]
theorem reach_rnum {ms ms' : List Int} {nu : Nat → Nat} (hlen : ms'.length = ms.length) (hl : ∀ h, h < ms.length → rnum nu h < ms.length) (hm : ∀ h, h < ms.length → mateN ms' (rnum nu h) = rnum nu (mateN ms h)) : ∀ {q a b : Nat}, Reach ms q a b → Reach ms' q (nu a) (nu b)
  | 0, a, b, hr => by cases hr; rfl
  | q + 1, a, b, ⟨e, ⟨g, h1, h2, h3⟩, hr⟩ => by
    refine ⟨nu e, ⟨rnum nu g, by rw [hlen]; exact hl g h1, ?_, ?_⟩, reach_rnum hlen hl hm hr⟩
    · unfold rnum; rw [h2]; omega
    · rw [hm g h1]; unfold rnum; rw [h3]; omega
theorem out_rnum {xs xs' : List Int} {nu : Nat → Nat} {h : Nat} (hx : xs'.getD (nu (h / 4)) 0 = xs.getD (h / 4) 0) : outB xs' (rnum nu h) = outB xs h := by
  have e1 : rnum nu h / 4 = nu (h / 4) := by unfold rnum; omega
  have e2 : rnum nu h % 4 = h % 4 := by unfold rnum; omega
  unfold outB
  rw [e1, e2, hx]
end Go.Proofs.YtleoalcbgpjieaaDoor
