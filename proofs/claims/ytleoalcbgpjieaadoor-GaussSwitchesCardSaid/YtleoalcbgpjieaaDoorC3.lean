/- As many orbits, if one map is carried over into the other. -/
import Derived.Test.YtleoalcbgpjieaaDoorS7
namespace Go.Proofs.YtleoalcbgpjieaaDoor
open Go.Ab
set_option linter.unusedVariables false

open Classical in
noncomputable def leastsF (f : Nat → Nat) (n : Nat) : List Nat := (List.range n).filter fun h => decide (Least f h)
theorem leastsF_mem {f : Nat → Nat} {n h : Nat} : h ∈ leastsF f n ↔ h < n ∧ Least f h := by
  unfold leastsF; simp [List.mem_filter]
theorem leasts_F (ms : List Int) (n : Nat) : leasts ms n = leastsF (phi ms) n := rfl
theorem it_lt {n : Nat} {f : Nat → Nat} (hl : ∀ h, h < n → f h < n) {h : Nat} (hh : h < n) : ∀ j, it f j h < n
  | 0 => hh
  | j + 1 => hl _ (it_lt hl hh j)
theorem it_conj {n : Nat} {f g s : Nat → Nat} (hl : ∀ h, h < n → f h < n) (hc : ∀ h, h < n → g (s h) = s (f h)) {h : Nat} (hh : h < n) : ∀ j, it g j (s h) = s (it f j h)
  | 0 => rfl
  | j + 1 => by
    show g (it g j (s h)) = s (f (it f j h))
    rw [it_conj hl hc hh j, hc _ (it_lt hl hh j)]
theorem orbits_le {n : Nat} {f g s : Nat → Nat} (hi : Inj n f) (hl : ∀ h, h < n → f h < n) (gi : Inj n g) (gl : ∀ h, h < n → g h < n) (sl : ∀ h, h < n → s h < n) (si : Inj n s) (hc : ∀ h, h < n → g (s h) = s (f h)) : (leastsF f n).length ≤ (leastsF g n).length := by
  have key : ∀ h, h < n → ∃ t, t < n ∧ Least g t ∧ ∃ j, it g j t = s h := fun h hh => by
    obtain ⟨t, j, h1, h2, h3⟩ := orb_least gi gl (s h) (sl h hh)
    exact ⟨t, h1, h2, j, h3⟩
  let k : Nat → Nat := fun h => if hh : h < n then (key h hh).choose else 0
  have kk : ∀ h, h < n → k h < n ∧ Least g (k h) ∧ ∃ j, it g j (k h) = s h := fun h hh => by
    have := (key h hh).choose_spec
    simp only [k, dif_pos hh]
    exact this
  have hnd : ((leastsF f n).map k).Nodup := by
    unfold List.Nodup
    rw [List.pairwise_map]
    have hp : (leastsF f n).Pairwise (· ≠ ·) := by
      unfold leastsF
      exact List.Pairwise.filter _ (List.nodup_range)
    refine List.Pairwise.imp_of_mem ?_ hp
    intro a b ha hb hab he
    obtain ⟨a1, a2⟩ := leastsF_mem.1 ha
    obtain ⟨b1, b2⟩ := leastsF_mem.1 hb
    obtain ⟨t1, t2, i, hi1⟩ := kk a a1
    obtain ⟨_, _, j, hj1⟩ := kk b b1
    rw [← he] at hj1
    have step : ∀ {x y p q : Nat}, x < n → y < n → it g p (k a) = s x → it g q (k a) = s y → ∃ r, it f r x = y := fun {x y p q} hx hy e1 e2 => by
      obtain ⟨r, hr⟩ := orb_symm gi gl t1 e1
      refine ⟨q + r, si _ _ (it_lt hl hx _) hy ?_⟩
      rw [← it_conj hl hc hx, it_add, hr, e2]
    obtain ⟨r1, h1⟩ := step a1 b1 hi1 hj1
    obtain ⟨r2, h2⟩ := step b1 a1 hj1 hi1
    have := a2 r1
    have := b2 r2
    omega
  have hsub := List.Nodup.length_le_of_subset hnd (l₂ := leastsF g n) (fun x hx => by
    obtain ⟨a, ha, rfl⟩ := List.mem_map.1 hx
    obtain ⟨a1, a2⟩ := leastsF_mem.1 ha
    obtain ⟨t1, t2, _⟩ := kk a a1
    exact leastsF_mem.2 ⟨t1, t2⟩)
  rw [List.length_map] at hsub
  exact hsub
/-- As many parts. -/
theorem parts_le {ms ms' ps ps' : List Int} {n P P' : Nat} (hp : Parts ms n ps P) (hq : Parts ms' n ps' P') {t : Nat → Nat} (tl : ∀ c, c < n → t c < n) (hr : ∀ c d, c < n → d < n → (∃ q, Reach ms' q (t c) (t d)) → ∃ q, Reach ms q c d) : P ≤ P' := by
  have key : ∀ p, p < P → ∃ c k : Nat, c < n ∧ ps.getD c 0 = (p : Int) ∧ ps'.getD (t c) 0 = (k : Int) ∧ k < P' := fun p hpP => by
    obtain ⟨c, h1, h2⟩ := hp.hit p hpP
    obtain ⟨k, h3, h4⟩ := hq.rng (t c) (tl c h1)
    exact ⟨c, k, h1, h2, h3, h4⟩
  let k : Nat → Nat := fun p => if h : p < P then (key p h).choose_spec.choose else 0
  have kk : ∀ p, p < P → ∃ c, c < n ∧ ps.getD c 0 = (p : Int) ∧ ps'.getD (t c) 0 = (k p : Int) ∧ k p < P' := fun p h => by
    refine ⟨(key p h).choose, ?_⟩
    have := (key p h).choose_spec.choose_spec
    simp only [k, dif_pos h]
    exact this
  have hnd : ((List.range P).map k).Nodup := by
    unfold List.Nodup
    rw [List.pairwise_map]
    refine List.Pairwise.imp_of_mem ?_ (List.nodup_range (n := P))
    intro a b ha hb hab he
    simp only [List.mem_range] at ha hb
    obtain ⟨c, c1, c2, c3, c4⟩ := kk a ha
    obtain ⟨d, d1, d2, d3, d4⟩ := kk b hb
    have h1 := (hq.same (t c) (t d) (tl c c1) (tl d d1)).1 (by rw [c3, d3, he])
    have h2 := (hp.same c d c1 d1).2 (hr c d c1 d1 h1)
    rw [c2, d2] at h2
    exact hab (by omega)
  have hsub := List.Nodup.length_le_of_subset hnd (l₂ := List.range P') (fun x hx => by
    obtain ⟨a, ha, rfl⟩ := List.mem_map.1 hx
    simp only [List.mem_range] at ha ⊢
    obtain ⟨c, c1, c2, c3, c4⟩ := kk a ha
    exact c4)
  rw [List.length_map, List.length_range, List.length_range] at hsub
  exact hsub
/-- A half-edge, its crossing renumbered. -/
def rnum (nu : Nat → Nat) (h : Nat) : Nat := 4 * nu (h / 4) + h % 4
theorem turn_rnum (nu : Nat → Nat) (h k : Nat) : turnN (rnum nu h) k = rnum nu (turnN h k) := by
  have e : turnN h k / 4 = h / 4 := by unfold turnN; omega
  have e2 : turnN h k % 4 = (h % 4 + k) % 4 := by unfold turnN; omega
  unfold rnum
  rw [e, e2]
  unfold turnN
  omega
theorem phi_rnum {ms ms' : List Int} {nu : Nat → Nat} {h : Nat} (hm : mateN ms' (rnum nu h) = rnum nu (mateN ms h)) : phi ms' (rnum nu h) = rnum nu (phi ms h) := by
  show turnN (mateN ms' (rnum nu h)) 3 = rnum nu (turnN (mateN ms h) 3)
  rw [hm, turn_rnum]
theorem psi_rnum {ms ms' : List Int} {nu : Nat → Nat} {h : Nat} (hm : mateN ms' (rnum nu h) = rnum nu (mateN ms h)) : psi ms' (rnum nu h) = rnum nu (psi ms h) := by
  show turnN (mateN ms' (rnum nu h)) 2 = rnum nu (turnN (mateN ms h) 2)
  rw [hm, turn_rnum]
theorem reach_rnum {ms ms' : List Int} {nu : Nat → Nat} (hlen : ms'.length = ms.length) (hl : ∀ h, h < ms.length → rnum nu h < ms.length) (hm : ∀ h, h < ms.length → mateN ms' (rnum nu h) = rnum nu (mateN ms h)) : ∀ {q a b : Nat}, Reach ms q a b → Reach ms' q (nu a) (nu b)
  | 0, a, b, hr => by cases hr; rfl
  | q + 1, a, b, ⟨e, ⟨g, h1, h2, h3⟩, hr⟩ => by
    refine ⟨nu e, ⟨rnum nu g, by rw [hlen]; exact hl g h1, ?_, ?_⟩, reach_rnum hlen hl hm hr⟩
    · unfold rnum; rw [h2]; omega
    · rw [hm g h1]; unfold rnum; rw [h3]; omega
theorem out_rnum {xs xs' : List Int} {nu : Nat → Nat} {h : Nat} (hx : xs'.getD (nu (h / 4)) 0 = xs.getD (h / 4) 0) : outB xs' (rnum nu h) = outB xs h := by
  have e1 : rnum nu h / 4 = nu (h / 4) := by unfold rnum; omega
  have e2 : rnum nu h % 4 = h % 4 := by unfold rnum; omega
  unfold outB
  rw [e1, e2, hx]
end Go.Proofs.YtleoalcbgpjieaaDoor


/- A diagram with its crossings renumbered: plain. -/
namespace Go.Proofs.YtleoalcbgpjieaaDoor
open Go.Ab
set_option linter.unusedVariables false

/-- The second diagram is the first one, crossing c renumbered as nu c; mu leads back. -/
structure Ren (nu mu : Nat → Nat) (xs ms xs' ms' : List Int) : Prop where
  lx : xs'.length = xs.length
  lm : ms'.length = ms.length
  lt : ∀ c, c < xs.length → nu c < xs.length
  ml : ∀ c, c < xs.length → mu c < xs.length
  mn : ∀ c, c < xs.length → mu (nu c) = c
  nm : ∀ c, c < xs.length → nu (mu c) = c
  sg : ∀ c, c < xs.length → xs'.getD (nu c) 0 = xs.getD c 0
  mt : ∀ h, h < ms.length → ms'[rnum nu h]? = some ((rnum nu (mateN ms h) : Nat) : Int)
section
variable {nu mu : Nat → Nat} {xs ms xs' ms' : List Int} {l : Int}
theorem rnum_div (nu : Nat → Nat) (h : Nat) : rnum nu h / 4 = nu (h / 4) := by unfold rnum; omega
theorem rnum_mod (nu : Nat → Nat) (h : Nat) : rnum nu h % 4 = h % 4 := by unfold rnum; omega
theorem Ren.hl (R : Ren nu mu xs ms xs' ms') (hF : Front xs ms l) {h : Nat} (hh : h < ms.length) : rnum nu h < ms.length := by
  have h4 := hF.four
  have := R.lt (h / 4) (by omega)
  unfold rnum; omega
theorem Ren.back (R : Ren nu mu xs ms xs' ms') (hF : Front xs ms l) {h : Nat} (hh : h < ms.length) : rnum mu (rnum nu h) = h := by
  have h4 := hF.four
  have := R.mn (h / 4) (by omega)
  unfold rnum
  rw [show (4 * nu (h / 4) + h % 4) / 4 = nu (h / 4) by omega, this]; omega
theorem Ren.forth (R : Ren nu mu xs ms xs' ms') (hF : Front xs ms l) {h : Nat} (hh : h < ms.length) : rnum nu (rnum mu h) = h := by
  have h4 := hF.four
  have := R.nm (h / 4) (by omega)
  unfold rnum
  rw [show (4 * mu (h / 4) + h % 4) / 4 = mu (h / 4) by omega, this]; omega
theorem Ren.ml4 (R : Ren nu mu xs ms xs' ms') (hF : Front xs ms l) {h : Nat} (hh : h < ms.length) : rnum mu h < ms.length := by
  have h4 := hF.four
  have := R.ml (h / 4) (by omega)
  unfold rnum; omega
theorem Ren.mate (R : Ren nu mu xs ms xs' ms') {h : Nat} (hh : h < ms.length) : mateN ms' (rnum nu h) = rnum nu (mateN ms h) := by
  show (ms'.getD (rnum nu h) 0).toNat = _
  rw [getD_at (R.mt h hh)]; simp
theorem Ren.inj (R : Ren nu mu xs ms xs' ms') (hF : Front xs ms l) : Inj ms.length (rnum nu) := fun a b ha hb he => by
  rw [← R.back hF ha, he, R.back hF hb]
theorem Ren.front (R : Ren nu mu xs ms xs' ms') (hF : Front xs ms l) : Front xs' ms' l := by
  have h4 := hF.four
  refine ⟨by rw [R.lx]; exact hF.n64, by rw [R.lm, R.lx]; exact h4, hF.l0, hF.l64, fun x hx => ?_, fun h' hh' => ?_⟩
  · obtain ⟨i, hi⟩ := List.mem_iff_getElem?.1 hx
    have hil := (List.getElem?_eq_some_iff.1 hi).1
    rw [R.lx] at hil
    have h1 := R.sg (mu i) (R.ml i hil)
    rw [R.nm i hil, getD_at hi] at h1
    have h2 : xs[mu i]? = some (xs.getD (mu i) 0) := by simp [List.getD, R.ml i hil]
    rw [h1]
    exact hF.sgn _ (List.mem_of_getElem? h2)
  · rw [R.lm] at hh'
    have hh := R.ml4 hF hh'
    obtain ⟨h1, h2, h3⟩ := mate_get hF hh
    obtain ⟨m, g1, g2, g3, g4, g5⟩ := hF.ok _ hh
    have em : mateN ms (rnum mu h') = m := by show (ms.getD (rnum mu h') 0).toNat = m; rw [getD_at g1]; simp
    have e0 := R.forth hF hh'
    have a1 := R.mt _ hh
    have a2 := R.mt _ h2
    rw [e0] at a1
    rw [h3, e0] at a2
    refine ⟨rnum nu (mateN ms (rnum mu h')), a1, by rw [R.lm]; exact R.hl hF h2, fun he => ?_, a2, ?_⟩
    · exact g3 (by rw [← em]; exact R.inj hF _ _ h2 hh (he.trans e0.symm))
    · have o1 := out_rnum (xs := xs) (xs' := xs') (h := rnum mu h') (R.sg _ (by omega))
      have o2 := out_rnum (xs := xs) (xs' := xs') (h := mateN ms (rnum mu h')) (R.sg _ (by omega))
      rw [e0] at o1
      rw [o1, o2, em]; exact g5
theorem Ren.symm (R : Ren nu mu xs ms xs' ms') (hF : Front xs ms l) : Ren mu nu xs' ms' xs ms := by
  have h4 := hF.four
  refine ⟨R.lx.symm, R.lm.symm, ?_, ?_, ?_, ?_, ?_, ?_⟩
  · rw [R.lx]; exact R.ml
  · rw [R.lx]; exact R.lt
  · rw [R.lx]; exact R.nm
  · rw [R.lx]; exact R.mn
  · rw [R.lx]; intro c hc
    have := R.sg (mu c) (R.ml c hc)
    rw [R.nm c hc] at this
    exact this.symm
  · rw [R.lm]; intro h hh
    have hm := R.ml4 hF hh
    obtain ⟨h1, h2, h3⟩ := mate_get hF hm
    have := R.mate hm
    rw [R.forth hF hh] at this
    rw [this, R.back hF h2]; exact h1
/-- As many faces, as many parts. -/
theorem Ren.leasts_le (R : Ren nu mu xs ms xs' ms') (hF : Front xs ms l) : (leasts ms ms.length).length ≤ (leasts ms' ms'.length).length := by
  have hF' := R.front hF
  rw [leasts_F, leasts_F, R.lm]
  have hi := phi_inj hF'.mates hF'.inv
  have hl : ∀ h, h < ms'.length → phi ms' h < ms'.length := fun h hh => hF'.mates.phi_lt hh
  rw [R.lm] at hi hl
  exact orbits_le (phi_inj hF.mates hF.inv) (fun h hh => hF.mates.phi_lt hh) hi hl (fun h hh => R.hl hF hh) (R.inj hF) fun h hh => phi_rnum (R.mate hh)
theorem Ren.leasts_eq (R : Ren nu mu xs ms xs' ms') (hF : Front xs ms l) : (leasts ms' ms'.length).length = (leasts ms ms.length).length :=
  Nat.le_antisymm ((R.symm hF).leasts_le (R.front hF)) (R.leasts_le hF)
theorem Ren.parts_le {ps ps' : List Int} {P P' : Nat} (R : Ren nu mu xs ms xs' ms') (hF : Front xs ms l) (hp : Parts ms xs.length ps P) (hq : Parts ms' xs'.length ps' P') : P ≤ P' := by
  rw [R.lx] at hq
  refine YtleoalcbgpjieaaDoor.parts_le hp hq (t := nu) R.lt fun c d hc hd ⟨q, hr⟩ => ⟨q, ?_⟩
  have hS := R.symm hF
  have := reach_rnum (nu := mu) hS.lm (fun h hh => hS.hl (R.front hF) hh) (fun h hh => hS.mate hh) hr
  rwa [R.mn c hc, R.mn d hd] at this
theorem Ren.parts_eq {ps ps' : List Int} {P P' : Nat} (R : Ren nu mu xs ms xs' ms') (hF : Front xs ms l) (hp : Parts ms xs.length ps P) (hq : Parts ms' xs'.length ps' P') : P' = P :=
  Nat.le_antisymm ((R.symm hF).parts_le (R.front hF) hq hp) (R.parts_le hF hp hq)
/-! ### Its strands -/
theorem orbN_map {s : Nat → Nat} {f g : Nat → Nat} {n : Nat} (hl : ∀ h, h < n → f h < n) (hc : ∀ h, h < n → g (s h) = s (f h)) {h : Nat} (hh : h < n) (k : Nat) : (orbN f h k).map s = orbN g (s h) k := by
  unfold orbN
  rw [List.map_map]
  refine List.map_congr_left fun j hj => ?_
  exact (it_conj hl hc hh j).symm
/-- The second one first, the first one last. -/
def rot1 {α : Type} (L : List α) : List α := L.drop 1 ++ L.take 1
theorem rot1_map {α β : Type} (f : α → β) (L : List α) : (rot1 L).map f = rot1 (L.map f) := by simp [rot1, List.map_take]
theorem rot1_perm {α : Type} (L : List α) : (rot1 L).Perm L := by
  unfold rot1
  refine List.perm_append_comm.trans ?_
  rw [List.take_append_drop]
theorem cyc_rot {f : Nat → Nat} {n s : Nat} {L : List Nat} (hi : Inj n f) (hl : ∀ h, h < n → f h < n) (hs : s < n) (hL : Cyc f s L) : Cyc f (f s) (rot1 L) := by
  obtain ⟨k, rfl, h2, h3⟩ := hL
  have e : ∀ j, it f j (f s) = it f (j + 1) s := fun j => (it_add f s j 1).symm
  refine ⟨k, ?_, ?_, fun j h1 hk he => ?_⟩
  · have a1 : orbN f (f s) k = (List.range (k + 1)).map fun j => it f (j + 1) s := by
      unfold orbN
      exact List.map_congr_left fun j _ => e j
    rw [a1, List.range_succ, List.map_append]
    unfold orbN rot1
    rw [List.range_succ_eq_map, List.map_cons, List.map_map, List.drop_one, List.tail_cons]
    simp only [List.map_cons, List.map_nil, List.take_succ_cons, List.take_zero, h2]
    rfl
  · rw [e]
    show f (it f (k + 1) s) = f s
    rw [h2]
  · rw [e] at he
    exact h3 j h1 hk (hi _ _ (it_lt hl hs j) hs he)
theorem flat_rot {α : Type} : ∀ Ls : List (List α), (Ls.map rot1).flatten.Perm Ls.flatten
  | [] => List.Perm.refl _
  | L :: Ls => by
    rw [List.map_cons, List.flatten_cons, List.flatten_cons]
    exact (rot1_perm L).append (flat_rot Ls)
/-- The strands of the law: renumbered, each from its second half-edge on, in the opposite order. -/
def mvd (nu : Nat → Nat) (Ls : List (List Nat)) : List (List Nat) := (Ls.map fun L => rot1 (L.map (rnum nu))).reverse
theorem mvd_perm (nu : Nat → Nat) (Ls : List (List Nat)) : (mvd nu Ls).flatten.Perm (Ls.flatten.map (rnum nu)) := by
  unfold mvd
  refine (List.Perm.flatten (List.reverse_perm _)).trans ?_
  have : (Ls.map fun L => rot1 (L.map (rnum nu))) = (Ls.map (List.map (rnum nu))).map rot1 := by rw [List.map_map]; rfl
  rw [this]
  refine (flat_rot _).trans ?_
  rw [List.map_flatten]
theorem Ren.cov (R : Ren nu mu xs ms xs' ms') (hF : Front xs ms l) {Ls : List (List Nat)} (hC : Cov xs ms Ls) (hs : ∀ L ∈ Ls, ∃ s, s < ms.length ∧ Cyc (psi ms) s L) : Cov xs' ms' (mvd nu Ls) := by
  have hF' := R.front hF
  have h4 := hF.four
  have hp := mvd_perm nu Ls
  refine ⟨fun L' hL' => ?_, fun h' => ?_, ?_⟩
  · unfold mvd at hL'
    rw [List.mem_reverse] at hL'
    obtain ⟨L, hL, rfl⟩ := List.mem_map.1 hL'
    obtain ⟨s, hsl, k, rfl, c2, c3⟩ := hs L hL
    have hcj : ∀ h, h < ms.length → psi ms' (rnum nu h) = rnum nu (psi ms h) := fun h hh => psi_rnum (R.mate hh)
    refine ⟨_, cyc_rot (psi_inj hF'.mates hF'.inv) hF'.lt (s := rnum nu s) (by rw [R.lm]; exact R.hl hF hsl) ⟨k, orbN_map hF.lt hcj hsl k, ?_, fun j h1 hk he => ?_⟩⟩
    · rw [it_conj hF.lt hcj hsl, c2]
    · rw [it_conj hF.lt hcj hsl] at he
      exact c3 j h1 hk (R.inj hF _ _ (it_lt hF.lt hsl j) hsl he)
  · rw [hp.mem_iff, List.mem_map, R.lm]
    constructor
    · rintro ⟨h, hh, rfl⟩
      obtain ⟨a1, a2⟩ := (hC.mem h).1 hh
      exact ⟨R.hl hF a1, by rw [out_rnum (R.sg _ (by omega))]; exact a2⟩
    · rintro ⟨a1, a2⟩
      have b1 := R.ml4 hF a1
      refine ⟨rnum mu h', (hC.mem _).2 ⟨b1, ?_⟩, R.forth hF a1⟩
      have := out_rnum (xs := xs) (xs' := xs') (h := rnum mu h') (R.sg _ (by omega))
      rw [R.forth hF a1] at this
      rw [← this]; exact a2
  · rw [hp.nodup_iff]
    unfold List.Nodup
    rw [List.pairwise_map]
    refine List.Pairwise.imp_of_mem ?_ hC.nd
    intro a b ha hb hab he
    exact hab (R.inj hF _ _ ((hC.mem a).1 ha).1 ((hC.mem b).1 hb).1 he)
end
end Go.Proofs.YtleoalcbgpjieaaDoor


/- The numbers of an order, the diagram in that order: plain. -/
namespace Go.Proofs.YtleoalcbgpjieaaDoor
open Go.Ab
set_option linter.unusedVariables false

/-- The numbers of the crossings, as far as the order was read. -/
def numT (z : Int) (n : Nat) (os : List Int) : Nat → List Int
  | 0 => List.replicate n z
  | i + 1 => (numT z n os i).set (os.getD i 0).toNat (i : Int)
theorem numT_len (z : Int) (n : Nat) (os : List Int) : ∀ i, (numT z n os i).length = n
  | 0 => by simp [numT]
  | i + 1 => by simp [numT, numT_len z n os i]
/-- The first i of the order are crossings, none twice. -/
def OrdT (os : List Int) (n i : Nat) : Prop := (∀ j x, j < i → os[j]? = some x → 0 ≤ x ∧ x < (n : Int)) ∧ ∀ j k x, j < i → k < i → os[j]? = some x → os[k]? = some x → j = k
theorem numT_at {z : Int} {n : Nat} {os : List Int} {c : Nat} (hc : c < n) : ∀ {i}, i ≤ os.length → OrdT os n i →
    (∃ j, j < i ∧ os[j]? = some (c : Int) ∧ (numT z n os i)[c]? = some (j : Int)) ∨ ((∀ j, j < i → os[j]? ≠ some (c : Int)) ∧ (numT z n os i)[c]? = some z)
  | 0, _, _ => .inr ⟨fun j hj => absurd hj (by omega), by simp [numT, hc]⟩
  | i + 1, hi, ho => by
    obtain ⟨x, hx⟩ : ∃ x, os[i]? = some x := ⟨_, List.getElem?_eq_getElem (by omega)⟩
    have hr := ho.1 i x (by omega) hx
    have ho' : OrdT os n i := ⟨fun j x hj => ho.1 j x (by omega), fun j k x hj hk => ho.2 j k x (by omega) (by omega)⟩
    have ih := numT_at (z := z) hc (i := i) (by omega) ho'
    have hg : os.getD i 0 = x := by simp [List.getD, hx]
    rw [numT, hg, List.getElem?_set]
    by_cases he : x.toNat = c
    · rw [if_pos he, if_pos (by rw [numT_len]; omega)]
      refine .inl ⟨i, by omega, ?_, rfl⟩
      rw [hx]; congr 1; omega
    · rw [if_neg he]
      rcases ih with ⟨j, h1, h2, h3⟩ | ⟨h1, h2⟩
      · exact .inl ⟨j, by omega, h2, h3⟩
      · refine .inr ⟨fun j hj e => ?_, h2⟩
        by_cases hji : j = i
        · subst hji
          rw [hx] at e
          have := Option.some.inj e
          omega
        · exact h1 j (by omega) e
/-- An order of all crossings. -/
def PermO (os : List Int) (n : Nat) : Prop := os.length = n ∧ OrdT os n n
def nuO (n : Nat) (os : List Int) (c : Nat) : Nat := ((numT 0 n os n).getD c 0).toNat
def muO (os : List Int) (i : Nat) : Nat := (os.getD i 0).toNat
section
variable {os : List Int} {n : Nat}
theorem PermO.mu (h : PermO os n) {i : Nat} (hi : i < n) : os[i]? = some ((muO os i : Nat) : Int) ∧ muO os i < n := by
  obtain ⟨hl, ho⟩ := h
  obtain ⟨x, hx⟩ : ∃ x, os[i]? = some x := ⟨_, List.getElem?_eq_getElem (by omega)⟩
  have hr := ho.1 i x hi hx
  have : muO os i = x.toNat := by simp [muO, List.getD, hx]
  rw [this, hx]
  exact ⟨by congr 1; omega, by omega⟩
theorem PermO.sur (h : PermO os n) {c : Nat} (hc : c < n) : ∃ j, j < n ∧ muO os j = c := by
  refine Classical.byContradiction fun hx => ?_
  have hnd : (c :: (List.range n).map (muO os)).Nodup := by
    rw [List.nodup_cons]
    constructor
    · rw [List.mem_map]
      rintro ⟨j, hj, he⟩
      exact hx ⟨j, by simpa using hj, he⟩
    · unfold List.Nodup
      rw [List.pairwise_map]
      refine List.Pairwise.imp_of_mem ?_ (List.nodup_range (n := n))
      intro a b ha hb hab he
      simp only [List.mem_range] at ha hb
      have h1 := (h.mu ha).1
      have h2 := (h.mu hb).1
      rw [← he] at h2
      exact hab (h.2.2 a b _ ha hb h1 h2)
  have := List.Nodup.length_le_of_subset hnd (l₂ := List.range n) (fun x hx => by
    rcases List.mem_cons.1 hx with e | e
    · rw [e, List.mem_range]; exact hc
    · obtain ⟨j, hj, rfl⟩ := List.mem_map.1 e
      rw [List.mem_range] at hj ⊢
      exact (h.mu hj).2)
  simp at this; omega
theorem PermO.num (h : PermO os n) {z : Int} {c : Nat} (hc : c < n) : (numT z n os n)[c]? = some ((nuO n os c : Nat) : Int) ∧ nuO n os c < n ∧ muO os (nuO n os c) = c := by
  have key : ∀ z, ∃ j, j < n ∧ os[j]? = some (c : Int) ∧ (numT z n os n)[c]? = some (j : Int) := fun z => by
    rcases numT_at (z := z) hc (i := n) (by rw [h.1]; exact Nat.le_refl _) h.2 with h1 | ⟨h1, _⟩
    · exact h1
    · obtain ⟨j, h2, h3⟩ := h.sur hc
      have := (h.mu h2).1
      rw [h3] at this
      exact absurd this (h1 j h2)
  obtain ⟨j, a1, a2, a3⟩ := key z
  obtain ⟨k, b1, b2, b3⟩ := key 0
  have : nuO n os c = k := by unfold nuO; rw [getD_at b3]; simp
  have hjk := h.2.2 j k _ a1 b1 a2 b2
  subst hjk
  rw [this]
  refine ⟨a3, a1, ?_⟩
  simp [muO, List.getD, a2]
theorem PermO.back (h : PermO os n) {i : Nat} (hi : i < n) : nuO n os (muO os i) = i := by
  have h1 := h.mu hi
  obtain ⟨h2, h3, h4⟩ := h.num (z := 0) h1.2
  have h5 := h.mu h3
  rw [h4] at h5
  exact h.2.2 _ _ _ h3 hi h5.1 h1.1
end
/-- The diagram in the order. -/
def rnX (os xs : List Int) : List Int := os.map fun c => xs.getD c.toNat 0
def rnM (os ms : List Int) (n k : Nat) : Int := ((rnum (nuO n os) (mateN ms (rnum (muO os) k)) : Nat) : Int)
def rnMs (os ms : List Int) (n : Nat) : List Int := (List.range (4 * n)).map (rnM os ms n)
theorem PermO.ren {os xs ms : List Int} {l : Int} (hF : Front xs ms l) (h : PermO os xs.length) : Ren (nuO xs.length os) (muO os) xs ms (rnX os xs) (rnMs os ms xs.length) := by
  have h4 := hF.four
  refine ⟨by simp [rnX, h.1], by simp [rnMs, h4], fun c hc => (h.num (z := 0) hc).2.1, fun c hc => (h.mu hc).2, fun c hc => (h.num (z := 0) hc).2.2, fun c hc => h.back hc, fun c hc => ?_, fun k hk => ?_⟩
  · obtain ⟨h1, h2, h3⟩ := h.num (z := 0) hc
    have h5 := (h.mu h2).1
    rw [h3] at h5
    simp [rnX, List.getD, h5]
  · have hc : k / 4 < xs.length := by omega
    obtain ⟨h1, h2, h3⟩ := h.num (z := 0) hc
    have hlt : rnum (nuO xs.length os) k < 4 * xs.length := by unfold rnum; omega
    have hb : rnum (muO os) (rnum (nuO xs.length os) k) = k := by
      unfold rnum
      rw [show (4 * nuO xs.length os (k / 4) + k % 4) / 4 = nuO xs.length os (k / 4) by omega, h3]; omega
    rw [rnMs, List.getElem?_map, List.getElem?_range hlt]
    simp [rnM, hb]
end Go.Proofs.YtleoalcbgpjieaaDoor

