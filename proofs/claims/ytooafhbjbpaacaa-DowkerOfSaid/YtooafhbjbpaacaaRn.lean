/- A diagram, its crossings renumbered: plain. -/
import Derived.Test.YtooafhbjbpaacaaM1
namespace Go.Proofs.Ytooafhbjbpaacaa
open Go.Ab
set_option linter.unusedVariables false

/-- The second diagram is the first one, crossing c renumbered as nu c; mu leads back. -/
structure Ren (nu mu : Nat → Nat) (xs ms xs' ms' : List Int) : Prop where
  lx : xs'.length = xs.length
  lm : ms'.length = ms.length
  lt : ∀ c, c < xs.length → nu c < xs.length
  ml : ∀ c, c < xs.length → mu c < xs.length
  mn : ∀ c, c < xs.length → mu (nu c) = c
  nm : ∀ c, c < xs.length → nu (mu c) = c
  sg : ∀ c, c < xs.length → xs'.getD (nu c) 0 = xs.getD c 0
  mt : ∀ h, h < ms.length → ms'[rnum nu h]? = some ((rnum nu (mateN ms h) : Nat) : Int)
theorem mate_get {xs ms : List Int} {l : Int} (hF : Front xs ms l) {h : Nat} (hh : h < ms.length) : ms[h]? = some ((mateN ms h : Nat) : Int) ∧ mateN ms h < ms.length ∧ mateN ms (mateN ms h) = h := by
  obtain ⟨a, b, c, _⟩ := hF.mateg hh
  exact ⟨a, b, c⟩
section
variable {nu mu : Nat → Nat} {xs ms xs' ms' : List Int} {l : Int}
theorem rnum_div (nu : Nat → Nat) (h : Nat) : rnum nu h / 4 = nu (h / 4) := by unfold rnum; omega
theorem rnum_mod (nu : Nat → Nat) (h : Nat) : rnum nu h % 4 = h % 4 := by unfold rnum; omega
theorem Ren.hl (R : Ren nu mu xs ms xs' ms') (hF : Front xs ms l) {h : Nat} (hh : h < ms.length) : rnum nu h < ms.length := by
  have h4 := hF.four
  have := R.lt (h / 4) (by omega)
  unfold rnum; omega
theorem Ren.back (R : Ren nu mu xs ms xs' ms') (hF : Front xs ms l) {h : Nat} (hh : h < ms.length) : rnum mu (rnum nu h) = h := by
  have h4 := hF.four
  have := R.mn (h / 4) (by omega)
  unfold rnum
  rw [show (4 * nu (h / 4) + h % 4) / 4 = nu (h / 4) by omega, this]; omega
theorem Ren.forth (R : Ren nu mu xs ms xs' ms') (hF : Front xs ms l) {h : Nat} (hh : h < ms.length) : rnum nu (rnum mu h) = h := by
  have h4 := hF.four
  have := R.nm (h / 4) (by omega)
  unfold rnum
  rw [show (4 * mu (h / 4) + h % 4) / 4 = mu (h / 4) by omega, this]; omega
theorem Ren.ml4 (R : Ren nu mu xs ms xs' ms') (hF : Front xs ms l) {h : Nat} (hh : h < ms.length) : rnum mu h < ms.length := by
  have h4 := hF.four
  have := R.ml (h / 4) (by omega)
  unfold rnum; omega
theorem Ren.mate (R : Ren nu mu xs ms xs' ms') {h : Nat} (hh : h < ms.length) : mateN ms' (rnum nu h) = rnum nu (mateN ms h) := by
  show (ms'.getD (rnum nu h) 0).toNat = _
  rw [getD_at (R.mt h hh)]; simp
theorem Ren.inj (R : Ren nu mu xs ms xs' ms') (hF : Front xs ms l) : Inj ms.length (rnum nu) := fun a b ha hb he => by
  rw [← R.back hF ha, he, R.back hF hb]
theorem Ren.front (R : Ren nu mu xs ms xs' ms') (hF : Front xs ms l) : Front xs' ms' l := by
  have h4 := hF.four
  refine ⟨by rw [R.lx]; exact hF.n64, by rw [R.lm, R.lx]; exact h4, hF.l0, hF.l64, fun x hx => ?_, fun h' hh' => ?_⟩
  · obtain ⟨i, hi⟩ := List.mem_iff_getElem?.1 hx
    have hil := (List.getElem?_eq_some_iff.1 hi).1
    rw [R.lx] at hil
    have h1 := R.sg (mu i) (R.ml i hil)
    rw [R.nm i hil, getD_at hi] at h1
    have h2 : xs[mu i]? = some (xs.getD (mu i) 0) := by simp [List.getD, R.ml i hil]
    rw [h1]
    exact hF.sgn _ (List.mem_of_getElem? h2)
  · rw [R.lm] at hh'
    have hh := R.ml4 hF hh'
    obtain ⟨h1, h2, h3⟩ := mate_get hF hh
    obtain ⟨m, g1, g2, g3, g4, g5⟩ := hF.ok _ hh
    have em : mateN ms (rnum mu h') = m := by show (ms.getD (rnum mu h') 0).toNat = m; rw [getD_at g1]; simp
    have e0 := R.forth hF hh'
    have a1 := R.mt _ hh
    have a2 := R.mt _ h2
    rw [e0] at a1
    rw [h3, e0] at a2
    refine ⟨rnum nu (mateN ms (rnum mu h')), a1, by rw [R.lm]; exact R.hl hF h2, fun he => ?_, a2, ?_⟩
    · exact g3 (by rw [← em]; exact R.inj hF _ _ h2 hh (he.trans e0.symm))
    · have o1 := out_rnum (xs := xs) (xs' := xs') (h := rnum mu h') (R.sg _ (by omega))
      have o2 := out_rnum (xs := xs) (xs' := xs') (h := mateN ms (rnum mu h')) (R.sg _ (by omega))
      rw [e0] at o1
      rw [o1, o2, em]; exact g5
theorem Ren.symm (R : Ren nu mu xs ms xs' ms') (hF : Front xs ms l) : Ren mu nu xs' ms' xs ms := by
  have h4 := hF.four
  refine ⟨R.lx.symm, R.lm.symm, ?_, ?_, ?_, ?_, ?_, ?_⟩
  · rw [R.lx]; exact R.ml
  · rw [R.lx]; exact R.lt
  · rw [R.lx]; exact R.nm
  · rw [R.lx]; exact R.mn
  · rw [R.lx]; intro c hc
    have := R.sg (mu c) (R.ml c hc)
    rw [R.nm c hc] at this
    exact this.symm
  · rw [R.lm]; intro h hh
    have hm := R.ml4 hF hh
    obtain ⟨h1, h2, h3⟩ := mate_get hF hm
    have := R.mate hm
    rw [R.forth hF hh] at this
    rw [this, R.back hF h2]; exact h1
/-- As many faces, as many parts. -/
theorem Ren.leasts_le (R : Ren nu mu xs ms xs' ms') (hF : Front xs ms l) : (leasts ms ms.length).length ≤ (leasts ms' ms'.length).length := by
  have hF' := R.front hF
  rw [leasts_F, leasts_F, R.lm]
  have hi := phi_inj hF'.mates hF'.inv
  have hl : ∀ h, h < ms'.length → phi ms' h < ms'.length := fun h hh => hF'.mates.phi_lt hh
  rw [R.lm] at hi hl
  exact orbits_le (phi_inj hF.mates hF.inv) (fun h hh => hF.mates.phi_lt hh) hi hl (fun h hh => R.hl hF hh) (R.inj hF) fun h hh => phi_rnum (R.mate hh)
theorem Ren.leasts_eq (R : Ren nu mu xs ms xs' ms') (hF : Front xs ms l) : (leasts ms' ms'.length).length = (leasts ms ms.length).length :=
  Nat.le_antisymm ((R.symm hF).leasts_le (R.front hF)) (R.leasts_le hF)
theorem Ren.parts_le {ps ps' : List Int} {P P' : Nat} (R : Ren nu mu xs ms xs' ms') (hF : Front xs ms l) (hp : Parts ms xs.length ps P) (hq : Parts ms' xs'.length ps' P') : P ≤ P' := by
  rw [R.lx] at hq
  refine Ytooafhbjbpaacaa.parts_le hp hq (t := nu) R.lt fun c d hc hd ⟨q, hr⟩ => ⟨q, ?_⟩
  have hS := R.symm hF
  have := reach_rnum (nu := mu) hS.lm (fun h hh => hS.hl (R.front hF) hh) (fun h hh => hS.mate hh) hr
  rwa [R.mn c hc, R.mn d hd] at this
theorem Ren.parts_eq {ps ps' : List Int} {P P' : Nat} (R : Ren nu mu xs ms xs' ms') (hF : Front xs ms l) (hp : Parts ms xs.length ps P) (hq : Parts ms' xs'.length ps' P') : P' = P :=
  Nat.le_antisymm ((R.symm hF).parts_le (R.front hF) hq hp) (R.parts_le hF hp hq)
/-! ### Its strands -/
end
end Go.Proofs.Ytooafhbjbpaacaa
