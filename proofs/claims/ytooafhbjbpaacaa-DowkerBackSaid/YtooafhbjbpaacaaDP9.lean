/- A diagram, its crossings renumbered: plain. -/
import Derived.Test.YtooafhbjbpaacaaM1
import Derived.Test.YtooafhbjbpaacaaDP7
import Derived.Test.YtooafhbjbpaacaaI1
namespace Go.Proofs.Ytooafhbjbpaacaa
open Go.Ab
set_option linter.unusedVariables false

/-- The second diagram is the first one, crossing c renumbered as nu c; mu leads back. -/
structure Ren (nu mu : Nat → Nat) (xs ms xs' ms' : List Int) : Prop where
  lx : xs'.length = xs.length
  lm : ms'.length = ms.length
  lt : ∀ c, c < xs.length → nu c < xs.length
  ml : ∀ c, c < xs.length → mu c < xs.length
  mn : ∀ c, c < xs.length → mu (nu c) = c
  nm : ∀ c, c < xs.length → nu (mu c) = c
  sg : ∀ c, c < xs.length → xs'.getD (nu c) 0 = xs.getD c 0
  mt : ∀ h, h < ms.length → ms'[rnum nu h]? = some ((rnum nu (mateN ms h) : Nat) : Int)
theorem mate_get {xs ms : List Int} {l : Int} (hF : Front xs ms l) {h : Nat} (hh : h < ms.length) : ms[h]? = some ((mateN ms h : Nat) : Int) ∧ mateN ms h < ms.length ∧ mateN ms (mateN ms h) = h := by
  obtain ⟨a, b, c, _⟩ := hF.mateg hh
  exact ⟨a, b, c⟩
section
variable {nu mu : Nat → Nat} {xs ms xs' ms' : List Int} {l : Int}
theorem rnum_div (nu : Nat → Nat) (h : Nat) : rnum nu h / 4 = nu (h / 4) := by unfold rnum; omega
theorem rnum_mod (nu : Nat → Nat) (h : Nat) : rnum nu h % 4 = h % 4 := by unfold rnum; omega
theorem Ren.hl (R : Ren nu mu xs ms xs' ms') (hF : Front xs ms l) {h : Nat} (hh : h < ms.length) : rnum nu h < ms.length := by
  have h4 := hF.four
  have := R.lt (h / 4) (by omega)
  unfold rnum; omega
theorem Ren.back (R : Ren nu mu xs ms xs' ms') (hF : Front xs ms l) {h : Nat} (hh : h < ms.length) : rnum mu (rnum nu h) = h := by
  have h4 := hF.four
  have := R.mn (h / 4) (by omega)
  unfold rnum
  rw [show (4 * nu (h / 4) + h % 4) / 4 = nu (h / 4) by omega, this]; omega
theorem Ren.forth (R : Ren nu mu xs ms xs' ms') (hF : Front xs ms l) {h : Nat} (hh : h < ms.length) : rnum nu (rnum mu h) = h := by
  have h4 := hF.four
  have := R.nm (h / 4) (by omega)
  unfold rnum
  rw [show (4 * mu (h / 4) + h % 4) / 4 = mu (h / 4) by omega, this]; omega
theorem Ren.ml4 (R : Ren nu mu xs ms xs' ms') (hF : Front xs ms l) {h : Nat} (hh : h < ms.length) : rnum mu h < ms.length := by
  have h4 := hF.four
  have := R.ml (h / 4) (by omega)
  unfold rnum; omega
theorem Ren.mate (R : Ren nu mu xs ms xs' ms') {h : Nat} (hh : h < ms.length) : mateN ms' (rnum nu h) = rnum nu (mateN ms h) := by
  show (ms'.getD (rnum nu h) 0).toNat = _
  rw [getD_at (R.mt h hh)]; simp
theorem Ren.inj (R : Ren nu mu xs ms xs' ms') (hF : Front xs ms l) : Inj ms.length (rnum nu) := fun a b ha hb he => by
  rw [← R.back hF ha, he, R.back hF hb]
theorem Ren.front (R : Ren nu mu xs ms xs' ms') (hF : Front xs ms l) : Front xs' ms' l := by
  have h4 := hF.four
  refine ⟨by rw [R.lx]; exact hF.n64, by rw [R.lm, R.lx]; exact h4, hF.l0, hF.l64, fun x hx => ?_, fun h' hh' => ?_⟩
  · obtain ⟨i, hi⟩ := List.mem_iff_getElem?.1 hx
    have hil := (List.getElem?_eq_some_iff.1 hi).1
    rw [R.lx] at hil
    have h1 := R.sg (mu i) (R.ml i hil)
    rw [R.nm i hil, getD_at hi] at h1
    have h2 : xs[mu i]? = some (xs.getD (mu i) 0) := by simp [List.getD, R.ml i hil]
    rw [h1]
    exact hF.sgn _ (List.mem_of_getElem? h2)
  · rw [R.lm] at hh'
    have hh := R.ml4 hF hh'
    obtain ⟨h1, h2, h3⟩ := mate_get hF hh
    obtain ⟨m, g1, g2, g3, g4, g5⟩ := hF.ok _ hh
    have em : mateN ms (rnum mu h') = m := by show (ms.getD (rnum mu h') 0).toNat = m; rw [getD_at g1]; simp
    have e0 := R.forth hF hh'
    have a1 := R.mt _ hh
    have a2 := R.mt _ h2
    rw [e0] at a1
    rw [h3, e0] at a2
    refine ⟨rnum nu (mateN ms (rnum mu h')), a1, by rw [R.lm]; exact R.hl hF h2, fun he => ?_, a2, ?_⟩
    · exact g3 (by rw [← em]; exact R.inj hF _ _ h2 hh (he.trans e0.symm))
    · have o1 := out_rnum (xs := xs) (xs' := xs') (h := rnum mu h') (R.sg _ (by omega))
      have o2 := out_rnum (xs := xs) (xs' := xs') (h := mateN ms (rnum mu h')) (R.sg _ (by omega))
      rw [e0] at o1
      rw [o1, o2, em]; exact g5
theorem Ren.symm (R : Ren nu mu xs ms xs' ms') (hF : Front xs ms l) : Ren mu nu xs' ms' xs ms := by
  have h4 := hF.four
  refine ⟨R.lx.symm, R.lm.symm, ?_, ?_, ?_, ?_, ?_, ?_⟩
  · rw [R.lx]; exact R.ml
  · rw [R.lx]; exact R.lt
  · rw [R.lx]; exact R.nm
  · rw [R.lx]; exact R.mn
  · rw [R.lx]; intro c hc
    have := R.sg (mu c) (R.ml c hc)
    rw [R.nm c hc] at this
    exact this.symm
  · rw [R.lm]; intro h hh
    have hm := R.ml4 hF hh
    obtain ⟨h1, h2, h3⟩ := mate_get hF hm
    have := R.mate hm
    rw [R.forth hF hh] at this
    rw [this, R.back hF h2]; exact h1
/-- As many faces, as many parts. -/
theorem Ren.leasts_le (R : Ren nu mu xs ms xs' ms') (hF : Front xs ms l) : (leasts ms ms.length).length ≤ (leasts ms' ms'.length).length := by
  have hF' := R.front hF
  rw [leasts_F, leasts_F, R.lm]
  have hi := phi_inj hF'.mates hF'.inv
  have hl : ∀ h, h < ms'.length → phi ms' h < ms'.length := fun h hh => hF'.mates.phi_lt hh
  rw [R.lm] at hi hl
  exact orbits_le (phi_inj hF.mates hF.inv) (fun h hh => hF.mates.phi_lt hh) hi hl (fun h hh => R.hl hF hh) (R.inj hF) fun h hh => phi_rnum (R.mate hh)
theorem Ren.leasts_eq (R : Ren nu mu xs ms xs' ms') (hF : Front xs ms l) : (leasts ms' ms'.length).length = (leasts ms ms.length).length :=
  Nat.le_antisymm ((R.symm hF).leasts_le (R.front hF)) (R.leasts_le hF)
theorem Ren.parts_le {ps ps' : List Int} {P P' : Nat} (R : Ren nu mu xs ms xs' ms') (hF : Front xs ms l) (hp : Parts ms xs.length ps P) (hq : Parts ms' xs'.length ps' P') : P ≤ P' := by
  rw [R.lx] at hq
  refine Ytooafhbjbpaacaa.parts_le hp hq (t := nu) R.lt fun c d hc hd ⟨q, hr⟩ => ⟨q, ?_⟩
  have hS := R.symm hF
  have := reach_rnum (nu := mu) hS.lm (fun h hh => hS.hl (R.front hF) hh) (fun h hh => hS.mate hh) hr
  rwa [R.mn c hc, R.mn d hd] at this
theorem Ren.parts_eq {ps ps' : List Int} {P P' : Nat} (R : Ren nu mu xs ms xs' ms') (hF : Front xs ms l) (hp : Parts ms xs.length ps P) (hq : Parts ms' xs'.length ps' P') : P' = P :=
  Nat.le_antisymm ((R.symm hF).parts_le (R.front hF) hq hp) (R.parts_le hF hp hq)
/-! ### Its strands -/
end
end Go.Proofs.Ytooafhbjbpaacaa


namespace Go.Proofs.Ytooafhbjbpaacaa
open Go.Ab
set_option linter.unusedVariables false
variable {vs xs : List Int}

theorem step_o (hg : Good vs) (hs : ∀ i, i < vs.length → Sgn (xs.getD i 0)) {k : Nat} (hk : k < 2 * vs.length) : mateN (mtD vs xs) (oN vs xs k) / 4 = oN vs xs ((k + 1) % (2 * vs.length)) / 4 := by
  have h2 : (k + 1) % (2 * vs.length) < 2 * vs.length := Nat.mod_lt _ (by omega)
  rw [(mate_o hg hs hk).1, ← (oN_iN hg h2).2, turn_div]
/-- Whatever is closed under the mates and holds at the crossing 0 holds everywhere. -/
theorem conn_o (hg : Good vs) (hs : ∀ i, i < vs.length → Sgn (xs.getD i 0)) : Conn vs.length (mtD vs xs) := by
  intro K h0 hK c hc
  have h1n := hg.1
  obtain ⟨a0, b0⟩ := o_un (xs := xs) hg (i := 0) (by omega)
  obtain ⟨ac, bc⟩ := o_un (xs := xs) hg hc
  have hk0 := (ov_lt hg (i := 0) (by omega)).1
  have hkc := (ov_lt hg hc).1
  generalize ovD (vs.getD 0 0) 0 = k0 at *
  generalize ovD (vs.getD c 0) c = kc at *
  have key : ∀ j, K (oN vs xs ((k0 + j) % (2 * vs.length)) / 4) := by
    intro j
    induction j with
    | zero => rw [Nat.add_zero, Nat.mod_eq_of_lt hk0, b0]; exact h0
    | succ j ih =>
      have hl : (k0 + j) % (2 * vs.length) < 2 * vs.length := Nat.mod_lt _ (by omega)
      have := hK _ (oN_lt (xs := xs) hg hl).1 ih
      rw [step_o hg hs hl, Nat.mod_add_mod] at this
      rw [← Nat.add_assoc]; exact this
  have := key (kc + 2 * vs.length - k0)
  rw [show k0 + (kc + 2 * vs.length - k0) = kc + 2 * vs.length by omega, Nat.add_mod_right, Nat.mod_eq_of_lt hkc, bc] at this
  exact this
/-- In one piece. -/
def OneP (n : Nat) (ms : List Int) : Prop := ∀ b c, b < n → c < n → ∃ q, Reach ms q b c
theorem conn_one {n : Nat} {ms : List Int} (hm : Mates ms) (hv : Inv ms) (hl : ms.length = 4 * n) (hC : Conn n ms) : OneP n ms := by
  have h0 : ∀ c, c < n → ∃ q, Reach ms q 0 c := fun c hc => by
    refine hC (fun c => ∃ q, Reach ms q 0 c) ⟨0, rfl⟩ (fun h hh ⟨q, hq⟩ => ⟨q + 1, Reach.trans hq ⟨_, ⟨h, by omega, rfl, rfl⟩, rfl⟩⟩) c hc
  intro b c hb hc
  obtain ⟨q1, h1⟩ := h0 b hb
  obtain ⟨q2, h2⟩ := h0 c hc
  exact ⟨_, Reach.trans (Reach.symm hm hv h1) h2⟩
theorem one_sph {n : Nat} {ms : List Int} (h1n : 1 ≤ n) (hm : Mates ms) (hv : Inv ms) (hf : Fits ms n) (hO : OneP n ms) : Sph ms n ↔ (leasts ms ms.length).length = n + 2 := by
  have hg : ∀ c, c < n → (List.replicate n (0 : Int)).getD c 0 = 0 := fun c hc => by simp [List.getD, hc]
  have hp : Parts ms n (List.replicate n 0) 1 := by
    refine ⟨by simp, fun c hc => ⟨0, hg c hc, by omega⟩, fun b c hb hc => ⟨fun _ => hO b c hb hc, fun _ => by rw [hg b hb, hg c hc]⟩, fun p hpp => ⟨0, by omega, ?_⟩⟩
    obtain rfl : p = 0 := by omega
    exact hg 0 (by omega)
  rw [← parts_sph hm hv hf hp]
  have h4 := hf.n4
  have e1 : (leasts ms ms.length).countP (labAt (List.replicate n 0) (0 : Nat)) = (leasts ms ms.length).length := by
    rw [List.countP_eq_length]
    intro h hh
    rw [leasts_F, leastsF_mem] at hh
    unfold labAt
    rw [hg _ (by omega)]; rfl
  have e2 : (List.replicate n (0 : Int)).countP (fun y => y == ((0 : Nat) : Int)) = n := by
    rw [List.countP_eq_length.2 (fun y hy => by rw [(List.mem_replicate.1 hy).2]; rfl)]; simp
  constructor
  · intro h
    have := h 0 (by omega)
    rw [e1, e2] at this
    omega
  · intro h p hp0
    obtain rfl : p = 0 := by omega
    rw [e1, e2]; omega
/-- A diagram in one piece stays valid when its crossings are renumbered. -/
theorem Ren.pv {nu mu : Nat → Nat} {xs ms xs' ms' : List Int} {l : Int} (R : Ren nu mu xs ms xs' ms') (h1n : 1 ≤ xs.length) (hC : Conn xs.length ms) (hC' : Conn xs.length ms') (hV : PV xs ms l) : PV xs' ms' l := by
  have hF := hV.1
  have hF' := R.front hF
  refine ⟨hF', ?_⟩
  have hl := hF.four
  have hl' := hF'.four
  rw [R.lx] at hl' ⊢
  have hfit : Fits ms' xs.length := by rw [← R.lx]; exact hF'.fits
  have o1 := conn_one hF.mates hF.inv hl hC
  have o2 := conn_one hF'.mates hF'.inv hl' hC'
  rw [one_sph h1n hF'.mates hF'.inv hfit o2, R.leasts_eq hF]
  exact (one_sph h1n hF.mates hF.inv hF.fits o1).1 hV.2
end Go.Proofs.Ytooafhbjbpaacaa


/- A code that is read from the next passage on: plain. -/
namespace Go.Proofs.Ytooafhbjbpaacaa
open Go.Ab
set_option linter.unusedVariables false
variable {vs xs xs' : List Int}

/-- The crossing whose even passage is 2 i + 2. -/
noncomputable def nuS (vs : List Int) (i : Nat) : Nat := open Classical in if h : ∃ c, c < vs.length ∧ (vs.getD c 0).natAbs = 2 * (i + 1) then h.choose else 0
def muS (vs : List Int) (c : Nat) : Nat := (vs.getD c 0).natAbs / 2 - 1
theorem nuS_at (hg : Good vs) {i : Nat} (hi : i < vs.length) : nuS vs i < vs.length ∧ (vs.getD (nuS vs i) 0).natAbs = 2 * (i + 1) := by
  have h := good_sur hg (k := i + 1) (by omega)
  unfold nuS
  rw [dif_pos h]
  exact h.choose_spec
theorem mu_nuS (hg : Good vs) {i : Nat} (hi : i < vs.length) : muS vs (nuS vs i) = i := by
  unfold muS; rw [(nuS_at hg hi).2]; omega
theorem muS_lt (hg : Good vs) {c : Nat} (hc : c < vs.length) : muS vs c < vs.length := by
  obtain ⟨a, b, d⟩ := good_v hg hc
  unfold muS; omega
theorem nu_muS (hg : Good vs) {c : Nat} (hc : c < vs.length) : nuS vs (muS vs c) = c := by
  obtain ⟨a, b, d⟩ := good_v hg hc
  obtain ⟨e, f⟩ := nuS_at hg (muS_lt hg hc)
  refine good_inj hg e hc ?_
  rw [f]; unfold muS; omega
def wS (n c : Nat) : Nat := if c = 0 then 2 * n else 2 * c
noncomputable def shV (vs : List Int) (i : Nat) : Int := if 0 < vs.getD (nuS vs i) 0 then -((wS vs.length (nuS vs i) : Nat) : Int) else ((wS vs.length (nuS vs i) : Nat) : Int)
noncomputable def shL (vs : List Int) : List Int := (List.range vs.length).map (shV vs)
theorem shL_len : (shL vs).length = vs.length := by simp [shL]
theorem shL_at {i : Nat} (hi : i < vs.length) : (shL vs).getD i 0 = shV vs i := by
  simp [shL, List.getD, hi]
theorem shV_abs (vs : List Int) (i : Nat) : (shV vs i).natAbs = wS vs.length (nuS vs i) := by
  unfold shV; split <;> omega
theorem wS_rng {n c : Nat} (hc : c < n) : 2 ≤ wS n c ∧ wS n c ≤ 2 * n ∧ wS n c % 2 = 0 ∧ wS n c % (2 * n) = 2 * c := by
  unfold wS
  by_cases h : c = 0
  · rw [if_pos h]; refine ⟨by omega, by omega, by omega, by rw [Nat.mod_self]; omega⟩
  · rw [if_neg h]; exact ⟨by omega, by omega, by omega, Nat.mod_eq_of_lt (by omega)⟩
theorem shL_good (hg : Good vs) : Good (shL vs) := by
  refine ⟨by rw [shL_len]; exact hg.1, by rw [shL_len]; exact hg.2.1, fun x hx => ?_, ?_⟩
  · obtain ⟨i, hi, rfl⟩ := List.mem_map.1 hx
    obtain ⟨a, b⟩ := nuS_at hg (List.mem_range.1 hi)
    obtain ⟨c, d, e, f⟩ := wS_rng a
    rw [fit_mem, shL_len, evens_mem, shV_abs]
    exact ⟨wS vs.length (nuS vs i) / 2, by omega, by omega, by omega⟩
  · unfold shL List.Nodup
    rw [List.map_map, List.pairwise_map]
    refine List.Pairwise.imp_of_mem ?_ (List.nodup_range (n := vs.length))
    intro a b ha hb hab he
    simp only [Function.comp, shV_abs] at he
    have ha := List.mem_range.1 ha
    have hb := List.mem_range.1 hb
    have h1 := (wS_rng (nuS_at hg ha).1).2.2.2
    have h2 := (wS_rng (nuS_at hg hb).1).2.2.2
    rw [he, h2] at h1
    have e1 := mu_nuS hg ha
    have e2 := mu_nuS hg hb
    have : nuS vs a = nuS vs b := by omega
    rw [this, e2] at e1
    exact hab e1.symm
/-- The passages of the new code are those of the old one, one further. -/
theorem sh_par (hg : Good vs) {i : Nat} (hi : i < vs.length) : (unD (shV vs i) i + 1) % (2 * vs.length) = unD (vs.getD (nuS vs i) 0) (nuS vs i) ∧ (ovD (shV vs i) i + 1) % (2 * vs.length) = ovD (vs.getD (nuS vs i) 0) (nuS vs i) := by
  obtain ⟨a, b⟩ := nuS_at hg hi
  obtain ⟨c, d, e, f⟩ := wS_rng a
  have hv := shV_abs vs i
  have h2 : (2 * i + 1) % (2 * vs.length) = 2 * i + 1 := Nat.mod_eq_of_lt (by omega)
  have h3 : wS vs.length (nuS vs i) - 1 + 1 = wS vs.length (nuS vs i) := by omega
  unfold unD ovD
  rw [hv, b]
  by_cases hp : 0 < vs.getD (nuS vs i) 0
  · have hneg : shV vs i < 0 := by unfold shV; rw [if_pos hp]; omega
    rw [if_pos hneg, if_pos hneg, if_neg (by omega), if_neg (by omega), h3, f, h2]
    omega
  · have hpos : ¬ shV vs i < 0 := by unfold shV; rw [if_neg hp]; omega
    rw [if_neg hpos, if_neg hpos, if_pos (by omega), if_pos (by omega), h3, f, h2]
    omega
theorem sh_pass (hg : Good vs) (hx : ∀ i, i < vs.length → xs.getD (nuS vs i) 0 = xs'.getD i 0) {k : Nat} (hk : k < 2 * vs.length) :
    rnum (nuS vs) (oN (shL vs) xs' k) = oN vs xs ((k + 1) % (2 * vs.length)) ∧ rnum (nuS vs) (iN (shL vs) xs' k) = iN vs xs ((k + 1) % (2 * vs.length)) := by
  obtain ⟨i, hi, h⟩ := pass_at (xs := xs') (shL_good hg) (k := k) (by rw [shL_len]; exact hk)
  rw [shL_len] at hi
  rw [shL_at hi] at h
  obtain ⟨p1, p2⟩ := sh_par hg hi
  obtain ⟨a, b⟩ := nuS_at hg hi
  obtain ⟨o1, o2⟩ := outD_at (xs := xs) hg (Nat.le_refl _) _ a
  obtain ⟨i1, i2⟩ := inD_at (xs := xs) hg (Nat.le_refl _) _ a
  have hxi := hx i hi
  have r2 : ∀ d, d < 4 → rnum (nuS vs) (4 * i + d) = 4 * nuS vs i + d := fun d hd => by
    unfold rnum
    rw [show (4 * i + d) / 4 = i by omega]; omega
  rcases h with ⟨rfl, h1, h2⟩ | ⟨rfl, h1, h2⟩
  · rw [h1, h2, p1]
    unfold oN iN
    rw [o1, i1, r2 2 (by omega)]
    have := r2 0 (by omega)
    rw [Nat.add_zero] at this
    rw [this]
    exact ⟨by omega, by omega⟩
  · rw [h1, h2, p2]
    unfold oN iN
    rw [o2, i2, hxi]
    unfold ovH ivH
    split <;> rw [r2 _ (by omega), r2 _ (by omega)] <;> exact ⟨by omega, by omega⟩
end Go.Proofs.Ytooafhbjbpaacaa


