/- Two diagrams whose half-edges correspond, crossing by crossing: turned slots, or the mirror image: plain. -/
import Derived.Test.YtleoalcbgpjieaaDoorC1
namespace Go.Proofs.YtleoalcbgpjieaaDoor
open Go.Ab
set_option linter.unusedVariables false

/-- As many orbits of a kind. -/
theorem orbits_leQ {n : Nat} {f g s : Nat → Nat} {q : Nat → Bool} (gi : Inj n g) (gl : ∀ h, h < n → g h < n) (sl : ∀ h, h < n → s h < n) (hs : ∀ a b, a < n → b < n → (∃ r, it g r (s a) = s b) → ∃ r, it f r a = b) (qs : ∀ h, h < n → q (s h) = q h) (qg : ∀ h, h < n → q (g h) = q h) :
    (leastsF f n).countP q ≤ (leastsF g n).countP q := by
  have qi : ∀ j h, h < n → q (it g j h) = q h := fun j h hh => by
    induction j with
    | zero => rfl
    | succ j ih =>
      show q (g (it g j h)) = _
      rw [qg _ (it_lt gl hh j), ih]
  have key : ∀ h, h < n → ∃ t, t < n ∧ Least g t ∧ ∃ j, it g j t = s h := fun h hh => by
    obtain ⟨t, j, h1, h2, h3⟩ := orb_least gi gl (s h) (sl h hh)
    exact ⟨t, h1, h2, j, h3⟩
  let k : Nat → Nat := fun h => if hh : h < n then (key h hh).choose else 0
  have kk : ∀ h, h < n → k h < n ∧ Least g (k h) ∧ ∃ j, it g j (k h) = s h := fun h hh => by
    have := (key h hh).choose_spec
    simp only [k, dif_pos hh]
    exact this
  have hnd : (((leastsF f n).filter q).map k).Nodup := by
    unfold List.Nodup
    rw [List.pairwise_map]
    have hp : ((leastsF f n).filter q).Pairwise (· ≠ ·) := by
      unfold leastsF
      exact List.Pairwise.filter _ (List.Pairwise.filter _ (List.nodup_range))
    refine List.Pairwise.imp_of_mem ?_ hp
    intro a b ha hb hab he
    obtain ⟨a1, a2⟩ := leastsF_mem.1 (List.mem_filter.1 ha).1
    obtain ⟨b1, b2⟩ := leastsF_mem.1 (List.mem_filter.1 hb).1
    obtain ⟨t1, t2, i, hi1⟩ := kk a a1
    obtain ⟨_, _, j, hj1⟩ := kk b b1
    rw [← he] at hj1
    have step : ∀ {x y p r : Nat}, x < n → y < n → it g p (k a) = s x → it g r (k a) = s y → ∃ z, it f z x = y := fun {x y p r} hx hy e1 e2 => by
      obtain ⟨z, hz⟩ := orb_symm gi gl t1 e1
      refine hs x y hx hy ⟨r + z, ?_⟩
      rw [it_add, hz, e2]
    obtain ⟨r1, h1⟩ := step a1 b1 hi1 hj1
    obtain ⟨r2, h2⟩ := step b1 a1 hj1 hi1
    have := a2 r1
    have := b2 r2
    omega
  have hsub := List.Nodup.length_le_of_subset hnd (l₂ := (leastsF g n).filter q) (fun x hx => by
    obtain ⟨a, ha, rfl⟩ := List.mem_map.1 hx
    obtain ⟨ha, hq⟩ := List.mem_filter.1 ha
    obtain ⟨a1, a2⟩ := leastsF_mem.1 ha
    obtain ⟨t1, t2, j, hj⟩ := kk a a1
    refine List.mem_filter.2 ⟨leastsF_mem.2 ⟨t1, t2⟩, ?_⟩
    rw [← qi j _ t1, hj, qs a a1]
    exact hq)
  rw [List.length_map, ← List.countP_eq_length_filter, ← List.countP_eq_length_filter] at hsub
  exact hsub
/-- Faces stay within their component. -/
theorem phi_reach {ms : List Int} (hm : Mates ms) {h : Nat} (hh : h < ms.length) : Reach ms 1 (h / 4) (phi ms h / 4) := by
  refine ⟨phi ms h / 4, ⟨h, hh, rfl, ?_⟩, rfl⟩
  show mateN ms h / 4 = turnN (mateN ms h) 3 / 4
  unfold turnN; omega
/-- The labels hang on what is joined alone. -/
theorem label_eq {ms ms' : List Int} {n : Nat} (hm : Mates ms) (hv : Inv ms) (hf : Fits ms n) (hm' : Mates ms') (hv' : Inv ms') (hf' : Fits ms' n) (hr : ∀ c d, (∃ q, Reach ms q c d) ↔ ∃ q, Reach ms' q c d) : labIter ms' n n = labIter ms n n := by
  refine List.ext_getElem? fun c => ?_
  by_cases hc : c < n
  · obtain ⟨e, h1, h2, h3, h4⟩ := label_spec hm hv hf hc
    obtain ⟨e', g1, g2, g3, g4⟩ := label_spec hm' hv' hf' hc
    have : e = e' := by
      obtain ⟨q, hq⟩ := (hr c e).1 h3
      obtain ⟨q', hq'⟩ := (hr c e').2 g3
      have := g4 e q hq
      have := h4 e' q' hq'
      omega
    subst this
    have l1 : c < (labIter ms n n).length := by rw [labIter_len]; exact hc
    have l2 : c < (labIter ms' n n).length := by rw [labIter_len]; exact hc
    simp only [List.getD_eq_getElem?_getD, List.getElem?_eq_getElem l1, List.getElem?_eq_getElem l2, Option.getD_some] at h1 g1
    rw [List.getElem?_eq_getElem l1, List.getElem?_eq_getElem l2, h1, g1]
  · rw [List.getElem?_eq_none (by rw [labIter_len]; omega), List.getElem?_eq_none (by rw [labIter_len]; omega)]
theorem sph_same {ms ms' : List Int} {n : Nat} (hm : Mates ms) (hv : Inv ms) (hf : Fits ms n) (hm' : Mates ms') (hv' : Inv ms') (hf' : Fits ms' n) (hl : ms'.length = ms.length) (hr : ∀ c d, (∃ q, Reach ms q c d) ↔ ∃ q, Reach ms' q c d)
    (hc : ∀ q : Nat → Bool, (∀ h g, h < ms.length → g < ms.length → (∃ r, Reach ms r (h / 4) (g / 4)) → q h = q g) → (leasts ms' ms'.length).countP q = (leasts ms ms.length).countP q) (hS : Sph ms n) : Sph ms' n := by
  have he := label_eq hm hv hf hm' hv' hf' hr
  have h4 := hf.n4
  intro c hcn
  rw [he]
  intro hlc
  rw [hc (labAt (labIter ms n n) c) fun h g hh hg hq => ?_]
  · exact hS c hcn hlc
  · unfold labAt
    rw [(label_same hm hv hf (by omega) (by omega)).2 hq]

/-! ### Half-edges that correspond -/
/-- The half-edges of the second one are those of the first one under s, which keeps the crossings; d: the way round is kept (3) or turned (1). -/
structure Cor (d : Nat) (s : Nat → Nat) (xs ms xs' ms' : List Int) : Prop where
  lx : xs'.length = xs.length
  lm : ms'.length = ms.length
  sgn : ∀ x ∈ xs', Sgn x
  cr : ∀ h, s h / 4 = h / 4
  inj : ∀ a b, s a = s b → a = b
  sur : ∀ h, h < ms.length → ∃ g, g < ms.length ∧ s g = h
  tn : ∀ h, turnN (s h) 3 = s (turnN h d)
  mt : ∀ h, h < ms.length → ms'[s h]? = some ((s (mateN ms h) : Nat) : Int)
  out : ∀ h, h < ms.length → (outB xs' (s h) = outB xs' (s (mateN ms h)) ↔ outB xs h = outB xs (mateN ms h))
section
variable {d : Nat} {s : Nat → Nat} {xs ms xs' ms' : List Int} {l : Int}
theorem Cor.lt (R : Cor d s xs ms xs' ms') (hF : Front xs ms l) {h : Nat} (hh : h < ms.length) : s h < ms.length := by
  have h4 := hF.four
  have := R.cr h
  omega
theorem Front.mateg (hF : Front xs ms l) {h : Nat} (hh : h < ms.length) : ms[h]? = some ((mateN ms h : Nat) : Int) ∧ mateN ms h < ms.length ∧ mateN ms (mateN ms h) = h ∧ mateN ms h ≠ h ∧ outB xs h ≠ outB xs (mateN ms h) := by
  obtain ⟨m, h1, h2, h3, h4, h5⟩ := hF.ok h hh
  have e : mateN ms h = m := by unfold mateN; rw [getD_at h1]; simp
  have e2 : mateN ms m = h := by unfold mateN; rw [getD_at h4]; simp
  rw [e, e2]
  exact ⟨h1, h2, rfl, h3, h5⟩
theorem Cor.front (R : Cor d s xs ms xs' ms') (hF : Front xs ms l) : Front xs' ms' l := by
  have h4 := hF.four
  refine ⟨by rw [R.lx]; exact hF.n64, by rw [R.lm, R.lx]; exact h4, hF.l0, hF.l64, R.sgn, fun h' hh' => ?_⟩
  rw [R.lm] at hh'
  obtain ⟨h, hh, rfl⟩ := R.sur h' hh'
  obtain ⟨h1, h2, h3, h5, h6⟩ := hF.mateg hh
  have a1 := R.mt h hh
  have a2 := R.mt _ h2
  rw [h3] at a2
  exact ⟨s (mateN ms h), a1, by rw [R.lm]; exact R.lt hF h2, fun e => h5 (R.inj _ _ e), a2, fun e => h6 ((R.out h hh).1 e)⟩
theorem Cor.mate (R : Cor d s xs ms xs' ms') {h : Nat} (hh : h < ms.length) : mateN ms' (s h) = s (mateN ms h) := by
  show (ms'.getD (s h) 0).toNat = _
  rw [getD_at (R.mt h hh)]; simp
theorem Cor.step (R : Cor d s xs ms xs' ms') (hF : Front xs ms l) (a b : Nat) : Step ms' a b ↔ Step ms a b := by
  constructor
  · rintro ⟨h', h1, h2, h3⟩
    rw [R.lm] at h1
    obtain ⟨h, hh, rfl⟩ := R.sur h' h1
    rw [R.mate hh, R.cr] at h3
    rw [R.cr] at h2
    exact ⟨h, hh, h2, h3⟩
  · rintro ⟨h, h1, h2, h3⟩
    exact ⟨s h, by rw [R.lm]; exact R.lt hF h1, by rw [R.cr]; exact h2, by rw [R.mate h1, R.cr]; exact h3⟩
theorem Cor.reach (R : Cor d s xs ms xs' ms') (hF : Front xs ms l) : ∀ (q a b : Nat), Reach ms' q a b ↔ Reach ms q a b
  | 0, a, b => Iff.rfl
  | q + 1, a, b => by
    constructor
    · rintro ⟨e, h1, h2⟩; exact ⟨e, (R.step hF a e).1 h1, (R.reach hF q e b).1 h2⟩
    · rintro ⟨e, h1, h2⟩; exact ⟨e, (R.step hF a e).2 h1, (R.reach hF q e b).2 h2⟩
theorem turn_turn {h a b : Nat} (hb : (a + b) % 4 = 0) : turnN (turnN h a) b = h := by unfold turnN; omega
theorem turn_div (h k : Nat) : turnN h k / 4 = h / 4 := by unfold turnN; omega
theorem turn_inj4 {a b k : Nat} (h : turnN a k = turnN b k) : a = b := by unfold turnN at h; omega
/-- A turned diagram is plane, if the first one is. -/
theorem Cor.pv3 (R : Cor 3 s xs ms xs' ms') (hV : PV xs ms l) : PV xs' ms' l := by
  have hF := hV.1
  have hF' := R.front hF
  have hfit : Fits ms' xs.length := by rw [← R.lx]; exact hF'.fits
  refine ⟨hF', ?_⟩
  rw [R.lx]
  refine sph_same hF.mates hF.inv hF.fits hF'.mates hF'.inv hfit R.lm (fun c e => ⟨fun ⟨q, h⟩ => ⟨q, (R.reach hF q c e).2 h⟩, fun ⟨q, h⟩ => ⟨q, (R.reach hF q c e).1 h⟩⟩) (fun q hq => ?_) hV.2
  have i1 := phi_inj hF.mates hF.inv
  have l1 : ∀ h, h < ms.length → phi ms h < ms.length := fun h hh => hF.mates.phi_lt hh
  have i2 := phi_inj hF'.mates hF'.inv
  have l2 : ∀ h, h < ms'.length → phi ms' h < ms'.length := fun h hh => hF'.mates.phi_lt hh
  rw [R.lm] at i2 l2
  have hc : ∀ h, h < ms.length → phi ms' (s h) = s (phi ms h) := fun h hh => by
    show turnN (mateN ms' (s h)) 3 = s (turnN (mateN ms h) 3)
    rw [R.mate hh, R.tn]
  have q1 : ∀ h, h < ms.length → q (s h) = q h := fun h hh => hq _ _ (R.lt hF hh) hh ⟨0, R.cr h⟩
  have q2 : ∀ h, h < ms.length → q (phi ms h) = q h := fun h hh => (hq _ _ hh (l1 h hh) ⟨1, phi_reach hF.mates hh⟩).symm
  have q3 : ∀ h, h < ms.length → q (phi ms' h) = q h := fun h hh => by
    obtain ⟨g, hg, rfl⟩ := R.sur h hh
    rw [hc g hg, q1 _ (l1 g hg), q2 g hg, q1 g hg]
  rw [R.lm, leasts_F, leasts_F]
  refine Nat.le_antisymm ?_ ?_
  · -- back: the half-edge that s leads to h
    let t : Nat → Nat := fun h => if hh : h < ms.length then (R.sur h hh).choose else 0
    have ht : ∀ h, h < ms.length → t h < ms.length ∧ s (t h) = h := fun h hh => by
      have := (R.sur h hh).choose_spec
      simp only [t, dif_pos hh]
      exact this
    refine orbits_leQ i1 l1 (fun h hh => (ht h hh).1) (fun a b ha hb ⟨r, hr⟩ => ⟨r, ?_⟩) (fun h hh => by have := q1 _ (ht h hh).1; rw [(ht h hh).2] at this; exact this.symm) q2
    have := it_conj l1 hc (ht a ha).1 r
    rw [hr, (ht b hb).2, (ht a ha).2] at this
    exact this
  · refine orbits_leQ i2 l2 (fun h hh => R.lt hF hh) (fun a b ha hb ⟨r, hr⟩ => ⟨r, ?_⟩) q1 q3
    rw [it_conj l1 hc ha] at hr
    exact R.inj _ _ hr
/-- .. and a mirror image. -/
theorem Cor.pv1 (R : Cor 1 s xs ms xs' ms') (hV : PV xs ms l) : PV xs' ms' l := by
  have hF := hV.1
  have hF' := R.front hF
  have hfit : Fits ms' xs.length := by rw [← R.lx]; exact hF'.fits
  refine ⟨hF', ?_⟩
  rw [R.lx]
  refine sph_same hF.mates hF.inv hF.fits hF'.mates hF'.inv hfit R.lm (fun c e => ⟨fun ⟨q, h⟩ => ⟨q, (R.reach hF q c e).2 h⟩, fun ⟨q, h⟩ => ⟨q, (R.reach hF q c e).1 h⟩⟩) (fun q hq => ?_) hV.2
  have h4 := hF.four
  have i1 := phi_inj hF.mates hF.inv
  have l1 : ∀ h, h < ms.length → phi ms h < ms.length := fun h hh => hF.mates.phi_lt hh
  have i2 := phi_inj hF'.mates hF'.inv
  have l2 : ∀ h, h < ms'.length → phi ms' h < ms'.length := fun h hh => hF'.mates.phi_lt hh
  rw [R.lm] at i2 l2
  have ml : ∀ h, h < ms.length → mateN ms h < ms.length := fun h hh => (hF.mateg hh).2.1
  have mm : ∀ h, h < ms.length → mateN ms (mateN ms h) = h := fun h hh => (hF.mateg hh).2.2.1
  -- u: the mate, carried over
  have hc : ∀ h, h < ms.length → phi ms' (s (mateN ms (phi ms h))) = s (mateN ms h) := fun h hh => by
    have hp := l1 h hh
    show turnN (mateN ms' (s (mateN ms (phi ms h)))) 3 = _
    rw [R.mate (ml _ hp), mm _ hp, R.tn]
    congr 1
    show turnN (turnN (mateN ms h) 3) 1 = _
    exact turn_turn (by decide)
  have hcj : ∀ r h, h < ms.length → it (phi ms') r (s (mateN ms (it (phi ms) r h))) = s (mateN ms h) := fun r => by
    induction r with
    | zero => intro h hh; rfl
    | succ r ih =>
      intro h hh
      have e1 : it (phi ms) (r + 1) h = it (phi ms) r (phi ms h) := it_add _ _ r 1
      have e2 : ∀ x, it (phi ms') (r + 1) x = phi ms' (it (phi ms') r x) := fun x => rfl
      rw [e1, e2, ih _ (l1 h hh), hc h hh]
  have ul : ∀ h, h < ms.length → s (mateN ms h) < ms.length := fun h hh => R.lt hF (ml h hh)
  have q0 : ∀ h, h < ms.length → q (s h) = q h := fun h hh => hq _ _ (R.lt hF hh) hh ⟨0, R.cr h⟩
  have qm : ∀ h, h < ms.length → q (mateN ms h) = q h := fun h hh => (hq _ _ hh (ml h hh) ⟨1, ⟨_, ⟨h, hh, rfl, rfl⟩, rfl⟩⟩).symm
  have q1 : ∀ h, h < ms.length → q (s (mateN ms h)) = q h := fun h hh => by rw [q0 _ (ml h hh), qm h hh]
  have q2 : ∀ h, h < ms.length → q (phi ms h) = q h := fun h hh => (hq _ _ hh (l1 h hh) ⟨1, phi_reach hF.mates hh⟩).symm
  have usur : ∀ h, h < ms.length → ∃ g, g < ms.length ∧ s (mateN ms g) = h := fun h hh => by
    obtain ⟨g, hg, rfl⟩ := R.sur h hh
    exact ⟨mateN ms g, ml g hg, by rw [mm g hg]⟩
  have q3 : ∀ h, h < ms.length → q (phi ms' h) = q h := fun h hh => by
    obtain ⟨g, hg, rfl⟩ := usur h hh
    obtain ⟨j, _, _, hj⟩ := it_back i1 l1 hg
    -- g = phi of something
    obtain ⟨j', hj'⟩ : ∃ j', j = j' + 1 := ⟨j - 1, by omega⟩
    subst hj'
    have hx : phi ms (it (phi ms) j' g) = g := hj
    have hxl := it_lt l1 hg j'
    have := hc _ hxl
    rw [hx] at this
    rw [this, q1 _ hxl, q1 g hg]
    have := q2 _ hxl
    rw [hx] at this
    exact this.symm
  have uinj : ∀ a b, a < ms.length → b < ms.length → s (mateN ms a) = s (mateN ms b) → a = b := fun a b ha hb e => by
    have := R.inj _ _ e
    rw [← mm a ha, this, mm b hb]
  rw [R.lm, leasts_F, leasts_F]
  refine Nat.le_antisymm ?_ ?_
  · let t : Nat → Nat := fun h => if hh : h < ms.length then (usur h hh).choose else 0
    have ht : ∀ h, h < ms.length → t h < ms.length ∧ s (mateN ms (t h)) = h := fun h hh => by
      have := (usur h hh).choose_spec
      simp only [t, dif_pos hh]
      exact this
    refine orbits_leQ i1 l1 (fun h hh => (ht h hh).1) (fun a b ha hb ⟨r, hr⟩ => ?_) (fun h hh => by have := q1 _ (ht h hh).1; rw [(ht h hh).2] at this; exact this.symm) q2
    have := hcj r (t a) (ht a ha).1
    rw [hr, (ht b hb).2, (ht a ha).2] at this
    exact orb_symm i2 l2 hb this
  · refine orbits_leQ i2 l2 ul (fun a b ha hb ⟨r, hr⟩ => ?_) q1 q3
    -- from b, r steps on
    have := hcj r b hb
    have h9 : it (phi ms') r (s (mateN ms (it (phi ms) r b))) = it (phi ms') r (s (mateN ms a)) := by rw [this, hr]
    have il : ∀ (r x y : Nat), x < ms.length → y < ms.length → it (phi ms') r x = it (phi ms') r y → x = y := fun r => by
      induction r with
      | zero => intro x y _ _ e; exact e
      | succ r ih => intro x y hx hy e; exact ih x y hx hy (i2 _ _ (it_lt l2 hx r) (it_lt l2 hy r) e)
    have h10 := il r _ _ (ul _ (it_lt l1 hb r)) (ul a ha) h9
    have h11 := uinj _ _ (it_lt l1 hb r) ha h10
    exact orb_symm i1 l1 hb h11
end
end Go.Proofs.YtleoalcbgpjieaaDoor
