/- Products and quotients undo one another. -/
import Derived.Test.YtlnjddjobbhcaaaDoorQ5
namespace Go.Proofs.YtlnjddjobbhcaaaDoor
open Go.Ab
set_option linter.unusedVariables false
set_option linter.unusedSimpArgs false

/-- The ends of a product. -/
theorem ends_mul {p s q : List Tm} (hp : Can p) (hq : Can q) (h0 : q ≠ []) (hs : Can s) (hs0 : s ≠ []) (hm : ∀ e, cf p e = mc s q e) : p ≠ [] ∧ lo0 p = lo0 s + lo0 q ∧ hi0 p = hi0 s + hi0 q := by
  have hp0 : p ≠ [] := fun e => by
    have h1 := hm (lo0 s + lo0 q)
    rw [mc_low hs hq, e] at h1
    exact Int.mul_ne_zero (cf_lo hs hs0) (cf_lo hq h0) h1.symm
  refine ⟨hp0, ?_, ?_⟩
  · have h1 : cf p (lo0 s + lo0 q) ≠ 0 := by
      rw [hm, mc_low hs hq]; exact Int.mul_ne_zero (cf_lo hs hs0) (cf_lo hq h0)
    obtain ⟨t, t1, t2⟩ := cf_ne h1
    have h2 := lo0_le hp t t1
    have h3 := cf_lo hp hp0
    rw [hm] at h3
    obtain ⟨a, a1, b, b1, e⟩ := mc_ne h3
    have := lo0_le hs a a1
    have := lo0_le hq b b1
    omega
  · have h1 : cf p (hi0 s + hi0 q) ≠ 0 := by
      rw [hm, mc_high hs hq]; exact Int.mul_ne_zero (cf_hi hs hs0) (cf_hi hq h0)
    obtain ⟨t, t1, t2⟩ := cf_ne h1
    have h2 := hi0_ge hp t t1
    have h3 := cf_hi hp hp0
    rw [hm] at h3
    obtain ⟨a, a1, b, b1, e⟩ := mc_ne h3
    have := hi0_ge hs a a1
    have := hi0_ge hq b b1
    omega
theorem mulP_of {R P Q : Pol} (hR : R.big = false) (hP : P.big = false) (hQ : Q.big = false) (kr : Can R.ts) (kp : Pok P) (kq : Pok Q) (q0 : Q.ts ≠ []) (hm : ∀ e, mc R.ts Q.ts e = cf P.ts e) : mulP R Q = P := by
  unfold mulP
  rw [if_neg (by simp [hR, hQ])]
  by_cases r0 : R.ts = []
  · rw [if_pos (.inl r0)]
    have : P.ts = [] := by
      refine Can.ext kp.can .nil fun e => ?_
      rw [← hm, r0]; rfl
    cases P; simp_all [zeroP]
  · rw [if_neg (fun h => h.elim r0 q0)]
    obtain ⟨p0, hl, hh⟩ := ends_mul kp.can kq.can q0 kr r0 (fun e => (hm e).symm)
    have kl := kp.lo
    unfold mulLo
    rw [← hl, ← hh, if_neg (by omega)]
    have hrng := mul_rng kr kq.can
    have hn : mulLo R.ts Q.ts = lo0 P.ts := hl.symm
    rw [hn] at hrng
    have he : mulL R.ts Q.ts (lo0 P.ts) (mulN R.ts Q.ts) = P.ts := by
      refine Can.ext (fromC_can _ _ _) kp.can fun e => ?_
      show cf (mulL R.ts Q.ts (lo0 P.ts) (mulN R.ts Q.ts)) e = _
      rw [cf_mulL hrng, hm]
    rw [he, if_pos fun t ht => kp.cf t ht]
    cases P; simp_all
theorem cf_dvT {b : Tm} (hb : b.2 ≠ 0) : ∀ {s : List Tm}, (∀ t ∈ s, b.2 ∣ t.2) → ∀ e, b.2 * cf (s.map (dvT b)) e = cf s (e + b.1)
  | [], _, e => by simp [cf, S]
  | t :: s, h, e => by
    have ih := cf_dvT hb (s := s) (fun u hu => h u (.tail _ hu)) e
    rw [List.map_cons, cf_cons, cf_cons, Int.mul_add, ih]
    congr 1
    simp only [dvT]
    rw [← Int.mul_assoc, Int.mul_ediv_cancel' (h t (.head _))]
    congr 1
    by_cases hh : t.1 = e + b.1
    · rw [hh, dl_self, show e + b.1 - b.1 = e by omega, dl_self]
    · rw [dl_ne hh, dl_ne (by omega)]
theorem can_dvT {b : Tm} (hb : b.2 ≠ 0) {s : List Tm} (hs : Can s) (h : ∀ t ∈ s, b.2 ∣ t.2) : Can (s.map (dvT b)) := by
  refine ⟨List.pairwise_map.2 (hs.asc.imp fun {x y} hxy => by simp only [dvT]; omega), fun t ht => ?_⟩
  obtain ⟨u, hu, rfl⟩ := List.mem_map.1 ht
  intro e
  have h1 := Int.ediv_mul_cancel (h u hu)
  have e' : u.2 / b.2 = 0 := e
  rw [e'] at h1
  exact hs.nz u hu (by omega)
theorem mc_single (r : List Tm) (b : Tm) (e : Int) : mc r [b] e = b.2 * cf r (e - b.1) := by rw [mc_comm, mc_one]
/-- A quotient by one term. -/
theorem divP_sound {P : Pol} {b : Tm} (kp : Pok P) (hb : b.2 ≠ 0) (h : ∀ t ∈ P.ts, dvOk b t) : Pok ⟨false, P.ts.map (dvT b)⟩ ∧ ∀ e, mc (P.ts.map (dvT b)) [b] e = cf P.ts e := by
  refine ⟨⟨by simp, can_dvT hb kp.can fun t ht => (h t ht).1, fun t ht => ?_, fun t ht => ?_⟩, fun e => ?_⟩
  · obtain ⟨u, hu, rfl⟩ := List.mem_map.1 ht
    have := kp.cf u hu
    have h2 : (u.2 / b.2).natAbs ≤ u.2.natAbs := by rw [← Int.tdiv_eq_ediv_of_dvd (h u hu).1, Int.natAbs_tdiv]; exact Nat.div_le_self _ _
    exact Nat.le_trans h2 this
  · obtain ⟨u, hu, rfl⟩ := List.mem_map.1 ht
    exact (h u hu).2
  · rw [mc_single, cf_dvT hb (fun t ht => (h t ht).1), show e - b.1 + b.1 = e by omega]
theorem divP_complete {s p : List Tm} {b : Tm} (hs : Can s) (hp : Can p) (hb : b.2 ≠ 0) (hx : ∀ t ∈ p, t.1.natAbs ≤ eM) (hm : ∀ e, cf s e = mc p [b] e) : (∀ t ∈ s, dvOk b t) ∧ s.map (dvT b) = p := by
  have key : ∀ t ∈ s, dvOk b t := fun t ht => by
    have h1 := hm t.1
    rw [cf_mem hs ht, mc_single] at h1
    refine ⟨⟨_, h1⟩, ?_⟩
    have h2 : cf p (t.1 - b.1) ≠ 0 := fun e => by rw [e, Int.mul_zero] at h1; exact hs.nz t ht h1
    obtain ⟨u, hu, e⟩ := cf_ne h2
    rw [← e]; exact hx u hu
  refine ⟨key, Can.ext (can_dvT hb hs fun t ht => (key t ht).1) hp fun e => ?_⟩
  have h1 := cf_dvT hb (fun t ht => (key t ht).1) e
  rw [hm, mc_single, show e + b.1 - b.1 = e by omega] at h1
  exact Int.eq_of_mul_eq_mul_left hb h1
/-- What Div answers. -/
theorem divA_sound {P Q : Pol} (kp : Pok P) (kq : Pok Q) (hP : P.big = false) (hQ : Q.big = false) (q0 : Q.ts ≠ []) :
    ((divA P Q).2 = 0 ∧ Pok (divA P Q).1 ∧ (divA P Q).1.big = false ∧ ∀ e, mc (divA P Q).1.ts Q.ts e = cf P.ts e) ∨ divA P Q = (zeroP, 10) := by
  have nb : ¬ (P.big = true ∨ Q.big = true) := by simp [hP, hQ]
  cases hq : Q.ts with
  | nil => exact absurd hq q0
  | cons b q' =>
  have hbm : b ∈ Q.ts := by rw [hq]; exact .head _
  have bnz := kq.can.nz b hbm
  by_cases p0 : P.ts = []
  · have e : divA P Q = (zeroP, 0) := by unfold divA; rw [if_neg nb, hq]; simp only [if_pos p0]
    rw [e]
    exact .inl ⟨rfl, zeroP_ok, rfl, fun e => by rw [p0]; rfl⟩
  by_cases q1 : q' = []
  · have e : divA P Q = divP P.ts b := by unfold divA; rw [if_neg nb, hq]; simp only [if_neg p0, if_pos q1]
    rw [e]
    subst q1
    unfold divP
    by_cases h : ∀ t ∈ P.ts, dvOk b t
    · rw [if_pos h]
      obtain ⟨a, c⟩ := divP_sound kp bnz h
      exact .inl ⟨rfl, a, rfl, c⟩
    · rw [if_neg h]; exact .inr rfl
  have e : divA P Q = match dvR P.ts Q.ts cM eM with
    | some r => (⟨false, r⟩, 0)
    | none => (zeroP, 10) := by unfold divA; rw [if_neg nb, hq]; simp only [if_neg p0, if_neg q1]; cases dvR P.ts (b :: q') cM eM <;> rfl
  rw [e]
  cases hd : dvR P.ts Q.ts cM eM with
  | none => exact .inr rfl
  | some r =>
    obtain ⟨a, b, c⟩ := dv_sound kp.can kq.can q0 hd
    rw [← hq]
    exact .inl ⟨rfl, ⟨by simp, a, fun t ht => (b t ht).1, fun t ht => (b t ht).2⟩, rfl, c⟩
theorem divA_complete {S P Q : Pol} (ks : Pok S) (kp : Pok P) (kq : Pok Q) (hS : S.big = false) (hP : P.big = false) (hQ : Q.big = false) (q0 : Q.ts ≠ []) (hm : ∀ e, cf S.ts e = mc P.ts Q.ts e) : divA S Q = (P, 0) := by
  have nb : ¬ (S.big = true ∨ Q.big = true) := by simp [hS, hQ]
  cases hq : Q.ts with
  | nil => exact absurd hq q0
  | cons b q' =>
  have hbm : b ∈ Q.ts := by rw [hq]; exact .head _
  have bnz := kq.can.nz b hbm
  by_cases p0 : P.ts = []
  · have s0 : S.ts = [] := Can.ext ks.can .nil fun e => by rw [hm, p0]; rfl
    unfold divA
    rw [if_neg nb, hq]
    simp only [if_pos s0]
    cases P; simp_all [zeroP]
  obtain ⟨s0, -, -⟩ := ends_mul ks.can kq.can q0 kp.can p0 hm
  by_cases q1 : q' = []
  · have e : divA S Q = divP S.ts b := by unfold divA; rw [if_neg nb, hq]; simp only [if_neg s0, if_pos q1]
    rw [e]
    subst q1
    rw [hq] at hm
    obtain ⟨h1, h2⟩ := divP_complete ks.can kp.can bnz kp.ex hm
    unfold divP
    rw [if_pos h1, h2]
    cases P; simp_all
  have e : divA S Q = match dvR S.ts Q.ts cM eM with
    | some r => (⟨false, r⟩, 0)
    | none => (zeroP, 10) := by unfold divA; rw [if_neg nb, hq]; simp only [if_neg s0, if_neg q1]; cases dvR S.ts (b :: q') cM eM <;> rfl
  rw [e, dv_complete ks.can kq.can q0 kp.can p0 (fun t ht => ⟨kp.cf t ht, kp.ex t ht⟩) hm]
  cases P; simp_all
theorem mulP_cf {P Q : Pol} (kp : Pok P) (kq : Pok Q) (h : (mulP P Q).big = false) : ∀ e, cf (mulP P Q).ts e = mc P.ts Q.ts e := fun e => by
  unfold mulP at h ⊢
  split
  · rename_i h1; rw [if_pos h1] at h; simp [bigP] at h
  rename_i h1
  rw [if_neg h1] at h
  split
  · rename_i h2
    rcases h2 with h2 | h2
    · rw [h2]; rfl
    · rw [h2, mc_nilr]; rfl
  rename_i h2
  rw [if_neg h2] at h
  split
  · rename_i h3; rw [if_pos h3] at h; simp [bigP] at h
  rename_i h3
  rw [if_neg h3] at h
  split
  · exact cf_mulL (mul_rng kp.can kq.can) e
  · rename_i h4; rw [if_neg h4] at h; simp [bigP] at h
/-- A polynomial of few coefficients is narrow. -/
theorem ofP_rng {low : Int} {xs : List Int} : ∀ t ∈ (ofP low xs).ts, low ≤ t.1 ∧ t.1 < low + xs.length := by
  unfold ofP
  cases h : ofN low xs xs.length with
  | none => simp [bigP]
  | some r => exact fun t ht => let ⟨a, b, _⟩ := (ofN_ok h).2.1 t ht; ⟨a, b⟩
theorem ofP_width {low : Int} {xs : List Int} (hn : xs.length ≤ 20) (h0 : (ofP low xs).ts ≠ []) : hi0 (ofP low xs).ts - lo0 (ofP low xs).ts ≤ 19 := by
  obtain ⟨t, t1, t2⟩ := lo0_mem h0
  obtain ⟨u, u1, u2⟩ := hi0_mem h0
  have := ofP_rng t t1
  have := ofP_rng u u1
  omega
end Go.Proofs.YtlnjddjobbhcaaaDoor
