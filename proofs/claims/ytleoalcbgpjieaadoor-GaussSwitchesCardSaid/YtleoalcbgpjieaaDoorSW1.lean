/- A code whose crossing is switched, or whose sequences are reversed, has the same genus: plain. -/
import Derived.Test.YtleoalcbgpjieaaDoorHL
namespace Go.Proofs.YtleoalcbgpjieaaDoor
open Go.Ab
set_option linter.unusedVariables false
set_option linter.unusedSimpArgs false

/-- The slots of each crossing turned: the genus stays. -/
theorem gen_conj {g g' : GC} (hg : VG g) (hg' : VG g') (hS : g'.S.length = g.S.length) {s t : Nat → Nat} (st : ∀ h, s (t h) = h) (ts : ∀ h, t (s h) = h) (sc : ∀ h, s h / 4 = h / 4) (stn : ∀ h, turnN (s h) 3 = s (turnN h 3))
    (hm : ∀ h, h < 4 * g.S.length → mateN (mtV g') (s h) = s (mateN (mtV g) h)) : gen g' = gen g := by
  have hF := hg.front
  have hF' := hg'.front
  have l1 : (mtV g).length = 4 * g.S.length := mtG_len g.S g.C g.C.length
  have l2 : (mtV g').length = 4 * g.S.length := by rw [← hS]; exact mtG_len g'.S g'.C g'.C.length
  have sl : ∀ h, h < 4 * g.S.length → s h < 4 * g.S.length := fun h hh => by have := sc h; omega
  have tc : ∀ h, t h / 4 = h / 4 := fun h => by have := sc (t h); rw [st] at this; exact this.symm
  have tl : ∀ h, h < 4 * g.S.length → t h < 4 * g.S.length := fun h hh => by have := tc h; omega
  have R : Cor 3 s g.S (mtV g) g'.S (mtV g') := by
    refine ⟨hS, by rw [l1, l2], hF'.sgn, sc, fun a b e => by rw [← ts a, e, ts], fun h hh => ⟨t h, by rw [l1] at hh ⊢; exact tl h hh, st h⟩, stn, fun h hh => ?_, fun h hh => ?_⟩
    · rw [l1] at hh
      have := (hF'.mateg (h := s h) (by rw [l2]; exact sl h hh)).1
      rw [this, hm h hh]
    · have a := (hF.mateg hh).2.2.2.2
      rw [l1] at hh
      have b := (hF'.mateg (h := s h) (by rw [l2]; exact sl h hh)).2.2.2.2
      rw [hm h hh] at b
      exact ⟨fun e => absurd e b, fun e => absurd e a⟩
  have hfit : Fits (mtV g') g.S.length := by rw [← hS]; exact hF'.fits
  have hl := label_eq hF.mates hF.inv hF.fits hF'.mates hF'.inv hfit (fun c e => ⟨fun ⟨q, h⟩ => ⟨q, (R.reach hF q c e).2 h⟩, fun ⟨q, h⟩ => ⟨q, (R.reach hF q c e).1 h⟩⟩)
  have i1 := phi_inj hF.mates hF.inv
  have p1 : ∀ h, h < (mtV g).length → phi (mtV g) h < (mtV g).length := fun h hh => hF.mates.phi_lt hh
  have i2 := phi_inj hF'.mates hF'.inv
  have p2 : ∀ h, h < (mtV g').length → phi (mtV g') h < (mtV g').length := fun h hh => hF'.mates.phi_lt hh
  rw [l1] at i1 p1
  rw [l2] at i2 p2
  have hc : ∀ h, h < 4 * g.S.length → phi (mtV g') (s h) = s (phi (mtV g) h) := fun h hh => by
    show turnN (mateN (mtV g') (s h)) 3 = s (turnN (mateN (mtV g) h) 3)
    rw [hm h hh, stn]
  have hn : (leasts (mtV g') (mtV g').length).length = (leasts (mtV g) (mtV g).length).length := by
    rw [l1, l2, leasts_F, leasts_F]
    refine Nat.le_antisymm ?_ ?_
    · refine orbits_le i2 p2 i1 p1 tl (fun a b ha hb e => by rw [← st a, e, st]) fun h hh => ?_
      have := hc (t h) (tl h hh)
      rw [st] at this
      rw [this, ts]
    · exact orbits_le i1 p1 i2 p2 sl (fun a b ha hb e => by rw [← ts a, e, ts]) hc
  unfold gen
  rw [hn, hS, hl]
theorem gen_nonneg {g : GC} (hg : VG g) {P : Nat} {ps : List Int} (hp : Parts (mtV g) g.S.length ps P) : 0 ≤ gen g := by
  have hF := hg.front
  have := (genus_ok hF.mates hF.inv hF.fits (fun x hx => (hF.mateg hx).2.2.2.1) hp).1
  rwa [gen_parts hg hp] at this
/-- Each half-edge goes out at a visit, or comes in. -/
theorem VG.half {g : GC} (h : VG g) {j : Nat} (hj : j < 4 * g.S.length) : ∃ v, v ∈ g.C.flatten ∧ (j = outG g.S v ∨ j = inG g.S v) := by
  have hm : visH j ∈ g.C.flatten := by
    have := h.all (c := j / 4) (by omega) (decide (j % 2 = 1))
    unfold visH
    rwa [show ((j / 4 : Nat) : Int) = (j : Int) / 4 by omega] at this
  cases hb : outB g.S j with
  | true => exact ⟨_, hm, .inl (visH_out hb).symm⟩
  | false => exact ⟨_, hm, .inr (visH_in h.2.2.1 hj hb).symm⟩
theorem mateN_of {ms : List Int} {a b : Nat} (h : ms[a]? = some ((b : Nat) : Int)) : mateN ms a = b := by
  show (ms.getD a 0).toNat = b
  rw [getD_at h]; simp
/-! ### A crossing switched -/
def swV (x : Nat) (v : Vis) : Vis := (v.1, v.2 != (v.1 == (x : Int)))
def swS (x : Nat) (S : List Int) : List Int := S.set x (-(S.getD x 0))
def swG (x : Nat) (g : GC) : GC := ⟨g.C.map (List.map (swV x)), swS x g.S, g.L⟩
def swD (S : List Int) (x : Nat) : Nat := if S.getD x 0 = 1 then 1 else 3
def swH (d x h : Nat) : Nat := if h / 4 = x then turnN h d else h
theorem swV_inj {x : Nat} {v w : Vis} (h : swV x v = swV x w) : v = w := by
  obtain ⟨a, b⟩ := v
  obtain ⟨c, d⟩ := w
  simp only [swV, Prod.mk.injEq] at h
  obtain ⟨rfl, h⟩ := h
  cases hb : (a == (x : Int)) <;> rw [hb] at h <;> simp at h <;> rw [h]
theorem sw_flat (x : Nat) (g : GC) : (swG x g).C.flatten = g.C.flatten.map (swV x) := by
  show (g.C.map (List.map (swV x))).flatten = _
  rw [List.map_flatten]
theorem nodup_map {α β : Type} {f : α → β} (hf : ∀ a b, f a = f b → a = b) {l : List α} (h : l.Nodup) : (l.map f).Nodup := by
  unfold List.Nodup at *
  rw [List.pairwise_map]
  exact h.imp fun hne e => hne (hf _ _ e)
theorem swS_len (x : Nat) (S : List Int) : (swS x S).length = S.length := by simp [swS]
theorem swS_mem {x : Nat} {S : List Int} (h : ∀ s ∈ S, s = 1 ∨ s = -1) (hx : x < S.length) : ∀ s ∈ swS x S, s = 1 ∨ s = -1 := fun s hs => by
  rcases List.mem_or_eq_of_mem_set hs with h1 | h1
  · exact h s h1
  · have := h (S.getD x 0) (by rw [List.getD_eq_getElem?_getD, List.getElem?_eq_getElem hx]; exact List.getElem_mem _)
    omega
theorem VG.sw {g : GC} (h : VG g) {x : Nat} (hx : x < g.S.length) : VG (swG x g) := by
  obtain ⟨h1, h2, h3, h4, h5, h6, h7⟩ := h
  have hl : (swG x g).S.length = g.S.length := swS_len x g.S
  refine ⟨by rw [hl]; exact h1, h2, swS_mem h3 hx, fun c hc => ?_, fun v hv => ?_, ?_, ?_⟩
  · obtain ⟨d, hd, rfl⟩ := List.mem_map.1 hc
    intro e
    exact h4 d hd (List.map_eq_nil_iff.1 e)
  · rw [sw_flat] at hv
    obtain ⟨w, hw, rfl⟩ := List.mem_map.1 hv
    rw [hl]
    exact h5 w hw
  · rw [sw_flat]
    exact nodup_map (fun a b => swV_inj) h6
  · rw [sw_flat, List.length_map, hl]; exact h7
theorem swS_get (x : Nat) (S : List Int) (hx : x < S.length) (c : Nat) : (swS x S).getD c 0 = if c = x then -(S.getD c 0) else S.getD c 0 := by
  unfold swS
  rw [List.getD_eq_getElem?_getD, List.getElem?_set]
  by_cases h : x = c
  · subst h; rw [if_pos rfl, if_pos hx, if_pos rfl]; rfl
  · rw [if_neg h, if_neg (fun e => h e.symm), List.getD_eq_getElem?_getD]
theorem sw_ends {S : List Int} {x : Nat} (hx : x < S.length) {v : Vis} (hv : VOk S v) : outG (swS x S) (swV x v) = swH (swD S x) x (outG S v) ∧ inG (swS x S) (swV x v) = swH (swD S x) x (inG S v) := by
  obtain ⟨c, e1, e2, e3⟩ := hv.cases
  have hk : VOk (swS x S) (swV x v) := by
    refine ⟨hv.r0, by rw [swS_len]; exact hv.r1, ?_⟩
    have : (swV x v).1.toNat = v.1.toNat := rfl
    rw [this, swS_get x S hx]
    have := hv.s
    split <;> omega
  obtain ⟨d, f1, f2, f3⟩ := hk.cases
  have hcd : d = c := by
    have : (swV x v).1 = v.1 := rfl
    omega
  subst hcd
  rw [swS_get x S hx] at f3
  have e4 : (swV x v).2 = (v.2 != (v.1 == (x : Int))) := rfl
  rw [e4] at f3
  by_cases hd : d = x
  · subst hd
    have hb : (v.1 == (d : Int)) = true := by rw [e1]; simp
    rw [if_pos rfl, hb] at f3
    have o1 : outG S v / 4 = d := by omega
    have o2 : inG S v / 4 = d := by omega
    unfold swH
    rw [if_pos o1, if_pos o2]
    have hs := hv.s
    have hvd : v.1.toNat = d := by omega
    rw [hvd] at hs
    have hD : (S.getD d 0 = 1 ∧ swD S d = 1) ∨ (S.getD d 0 = -1 ∧ swD S d = 3) := by
      unfold swD
      rcases hs with h | h
      · exact .inl ⟨h, if_pos h⟩
      · exact .inr ⟨h, if_neg (by omega)⟩
    unfold turnN
    generalize swD S d = D at hD ⊢
    generalize S.getD d 0 = z at *
    rcases e3 with ⟨a, b, b'⟩ | ⟨a, s, b, b'⟩ | ⟨a, s, b, b'⟩
    · rw [a] at f3
      rcases f3 with ⟨k, _⟩ | ⟨k, s, k1, k2⟩ | ⟨k, s, k1, k2⟩
      · simp at k
      · omega
      · omega
    · rw [a] at f3
      rcases f3 with ⟨k, k1, k2⟩ | ⟨k, _⟩ | ⟨k, _⟩
      · omega
      · simp at k
      · simp at k
    · rw [a] at f3
      rcases f3 with ⟨k, k1, k2⟩ | ⟨k, _⟩ | ⟨k, _⟩
      · omega
      · simp at k
      · simp at k
  · have hb : (v.1 == (x : Int)) = false := by rw [e1]; simp; omega
    rw [if_neg hd, hb] at f3
    have o1 : ¬ outG S v / 4 = x := by omega
    have o2 : ¬ inG S v / 4 = x := by omega
    unfold swH
    rw [if_neg o1, if_neg o2]
    simp only [Bool.bne_false] at f3
    rcases e3 with ⟨a, b, b'⟩ | ⟨a, s, b, b'⟩ | ⟨a, s, b, b'⟩
    · rcases f3 with ⟨k, k1, k2⟩ | ⟨k, _⟩ | ⟨k, _⟩
      · omega
      · rw [a] at k; cases k
      · rw [a] at k; cases k
    · rcases f3 with ⟨k, _⟩ | ⟨k, s', k1, k2⟩ | ⟨k, s', k1, k2⟩
      · rw [a] at k; cases k
      · omega
      · omega
    · rcases f3 with ⟨k, _⟩ | ⟨k, s', k1, k2⟩ | ⟨k, s', k1, k2⟩
      · rw [a] at k; cases k
      · omega
      · omega
theorem NX.map {C : List (List Vis)} {v w : Vis} (h : NX C v w) (f : Vis → Vis) : NX (C.map (List.map f)) (f v) (f w) := by
  obtain ⟨i, c, k, h1, h2, h3⟩ := h
  exact ⟨i, c.map f, k, by simp [h1], by simp [h2], by rw [List.length_map]; simp [h3]⟩
theorem gen_sw {g : GC} (hg : VG g) {x : Nat} (hx : x < g.S.length) : gen (swG x g) = gen g := by
  have hs := hg.sw hx
  have d1 : ∀ h k, turnN h k / 4 = h / 4 := fun h k => by unfold turnN; omega
  have hD : ∃ D, swD g.S x = D ∧ (D = 1 ∨ D = 3) := by
    unfold swD
    by_cases h : g.S.getD x 0 = 1
    · exact ⟨1, if_pos h, .inl rfl⟩
    · exact ⟨3, if_neg h, .inr rfl⟩
  obtain ⟨D, eD, hD⟩ := hD
  have cc : ∀ a b h, a + b = 4 → swH a x (swH b x h) = h := fun a b h hab => by
    unfold swH
    by_cases e : h / 4 = x
    · rw [if_pos e, d1, if_pos e]; unfold turnN; omega
    · rw [if_neg e, if_neg e]
  refine gen_conj hg hs (swS_len x g.S) (s := swH D x) (t := swH (4 - D) x) (fun h => cc _ _ _ (by omega)) (fun h => cc _ _ _ (by omega)) (fun h => ?_) (fun h => ?_) fun j hj => ?_
  · unfold swH; split
    · exact d1 _ _
    · rfl
  · unfold swH
    rw [d1]
    split
    · unfold turnN; omega
    · rfl
  · obtain ⟨v, hv, e⟩ := hg.half hj
    have ov := hg.ok hv
    rcases e with rfl | rfl
    · obtain ⟨w, hx1⟩ := NX.next hv
      have ow := hg.ok hx1.mem.2
      rw [← eD, mateN_of (mtV_at hg hx1).1, ← (sw_ends hx ov).1, ← (sw_ends hx ow).2]
      exact mateN_of (mtV_at hs (hx1.map (swV x))).1
    · obtain ⟨u, hx1⟩ := NX.prev hv
      have ou := hg.ok hx1.mem.1
      rw [← eD, mateN_of (mtV_at hg hx1).2, ← (sw_ends hx ov).2, ← (sw_ends hx ou).1]
      exact mateN_of (mtV_at hs (hx1.map (swV x))).2
/-! ### All sequences reversed -/
def bkG (g : GC) : GC := ⟨g.C.map List.reverse, g.S, g.L⟩
theorem bk_perm : ∀ C : List (List Vis), (C.map List.reverse).flatten.Perm C.flatten
  | [] => List.Perm.refl _
  | c :: C => by
    simp only [List.map_cons, List.flatten_cons]
    exact (List.reverse_perm c).append (bk_perm C)
theorem VG.bk {g : GC} (h : VG g) : VG (bkG g) := by
  obtain ⟨h1, h2, h3, h4, h5, h6, h7⟩ := h
  have hp := bk_perm g.C
  refine ⟨h1, h2, h3, fun c hc => ?_, fun v hv => h5 v (hp.mem_iff.1 hv), hp.nodup_iff.2 h6, hp.length_eq.trans h7⟩
  obtain ⟨d, hd, rfl⟩ := List.mem_map.1 hc
  intro e
  exact h4 d hd (List.reverse_eq_nil_iff.1 e)
theorem NX.rev {C : List (List Vis)} {v w : Vis} (h : NX C v w) : NX (C.map List.reverse) w v := by
  obtain ⟨i, c, k, h1, h2, h3⟩ := h
  have hk := (List.getElem?_eq_some_iff.1 h2).1
  have hk3 := (List.getElem?_eq_some_iff.1 h3).1
  refine ⟨i, c.reverse, c.length - 1 - (k + 1) % c.length, by simp [h1], ?_, ?_⟩
  · rw [List.getElem?_reverse (by omega), show c.length - 1 - (c.length - 1 - (k + 1) % c.length) = (k + 1) % c.length by omega]
    exact h3
  · rw [List.length_reverse]
    have e : (c.length - 1 - (k + 1) % c.length + 1) % c.length = c.length - 1 - k := by
      by_cases hl : k + 1 < c.length
      · rw [Nat.mod_eq_of_lt hl, Nat.mod_eq_of_lt (by omega)]; omega
      · have : k + 1 = c.length := by omega
        rw [this, Nat.mod_self, show c.length - 1 - 0 + 1 = c.length by omega, Nat.mod_self]; omega
    rw [e, List.getElem?_reverse (by omega), show c.length - 1 - (c.length - 1 - k) = k by omega]
    exact h2
theorem gen_bk {g : GC} (hg : VG g) : gen (bkG g) = gen g := by
  have hb := hg.bk
  have tt : ∀ h, turnN (turnN h 2) 2 = h := fun h => by unfold turnN; omega
  refine gen_conj hg hb rfl (s := fun h => turnN h 2) (t := fun h => turnN h 2) tt tt (fun h => by unfold turnN; omega) (fun h => by unfold turnN; omega) fun j hj => ?_
  obtain ⟨v, hv, e⟩ := hg.half hj
  have ov := hg.ok hv
  rcases e with rfl | rfl
  · obtain ⟨w, hx1⟩ := NX.next hv
    have ow := hg.ok hx1.mem.2
    show mateN (mtV (bkG g)) (turnN (outG g.S v) 2) = turnN (mateN (mtV g) (outG g.S v)) 2
    rw [mateN_of (mtV_at hg hx1).1, ow.turn, ← ov.turn, tt]
    exact mateN_of (mtV_at hb hx1.rev).2
  · obtain ⟨u, hx1⟩ := NX.prev hv
    have ou := hg.ok hx1.mem.1
    show mateN (mtV (bkG g)) (turnN (inG g.S v) 2) = turnN (mateN (mtV g) (inG g.S v)) 2
    rw [mateN_of (mtV_at hg hx1).2, ov.turn, ← ou.turn, tt]
    exact mateN_of (mtV_at hb hx1.rev).1
end Go.Proofs.YtleoalcbgpjieaaDoor
