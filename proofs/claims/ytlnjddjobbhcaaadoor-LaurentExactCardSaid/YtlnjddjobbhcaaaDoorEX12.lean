/- The reference's division, plain: one step, what it keeps, and when it cannot fail. -/
import Derived.Test.YtlnjddjobbhcaaaDoorEX11
import Derived.Test.YtlnjddjobbhcaaaDoorQ6
namespace Go.Proofs.YtlnjddjobbhcaaaDoor
set_option linter.unusedVariables false
def stepT (a b : Tm) : Tm := (a.1 - b.1, Int.tdiv a.2 b.2)
noncomputable def stepR (r : List Tm) (t : Tm) (q : List Tm) : Pol := addR ⟨false, r⟩ (ngP (colP (mulAll [t] q [])))
theorem S_ng (g : Int → Int) : ∀ l : List Tm, S g (l.map ngT) = - S g l
  | [] => rfl
  | t :: l => by
    simp only [List.map_cons, S, ngT]
    rw [S_ng g l, Int.neg_mul]; omega
theorem asc_head {t : Tm} {r : List Tm} (h : Asc (t :: r)) : ∀ u ∈ r, t.1 < u.1 := (List.pairwise_cons.1 h).1
theorem asc_mem : ∀ {M : List Tm} {t : Tm}, Asc M → t ∈ M → cf M t.1 = t.2
  | u :: r, t, h, ht => by
    rcases List.mem_cons.1 ht with rfl | ht
    · rw [cf_cons, dl_self, cf_none fun v hv => by have := asc_head h v hv; omega]; omega
    · have := asc_head h t ht
      rw [cf_cons, dl_ne (by omega), asc_mem (List.pairwise_cons.1 h).2 ht]; omega
theorem colP_of {M : List Tm} (h : Asc M) (hb : ∀ e, cf M e ≠ 0 → (cf M e).natAbs ≤ cM ∧ e.natAbs ≤ eM) : (colP M).big = false := by
  unfold colP
  rw [if_pos]
  intro u hu h0
  have := hb u.1
  rw [asc_mem h hu] at this
  exact this h0
theorem mulAll_cf (t : Tm) (q : List Tm) (e : Int) : cf (mulAll [t] q []) e = t.2 * cf q (e - t.1) := by
  unfold cf
  rw [S_mulAll]
  show 0 + mc [t] q e = _
  rw [mc_one]; unfold cf; omega
theorem mulAll_ascn (t : Tm) (q : List Tm) : Asc (mulAll [t] q []) := mulAll_asc (show Asc [] from .nil)
/-- A step that does not fail. -/
theorem stepR_ok {r q : List Tm} {t : Tm} (hr : Can r) (h : (stepR r t q).big = false) : Pok (stepR r t q) ∧ (colP (mulAll [t] q [])).big = false ∧ ∀ g, S g (stepR r t q).ts = S g r - S2 g [t] q := by
  unfold stepR addR at h ⊢
  by_cases hb : (colP (mulAll [t] q [])).big = true
  · rw [if_pos (.inr (by simpa [ngP] using hb))] at h
    simp [bigP] at h
  have hb : (colP (mulAll [t] q [])).big = false := by simpa using hb
  have hc : ¬ ((⟨false, r⟩ : Pol).big = true ∨ (ngP (colP (mulAll [t] q []))).big = true) := by simp [ngP, hb]
  rw [if_neg hc] at h ⊢
  rcases colP_spec (mulAll_ascn t q) with e | ⟨-, k1, s1⟩
  · rw [e] at hb; simp [bigP] at hb
  have asc0 : Asc (putAll (ngP (colP (mulAll [t] q []))).ts (putAll r [])) := putAll_asc (putAll_asc .nil)
  rcases colP_spec asc0 with e | ⟨-, k2, s2⟩
  · rw [e] at h; simp [bigP] at h
  refine ⟨k2, hb, fun g => ?_⟩
  rw [s2, S_putAll, S_putAll]
  show S g [] + S g r + S g ((colP (mulAll [t] q [])).ts.map ngT) = _
  rw [S_ng, s1, S_mulAll]
  simp only [S]; omega
/-- A step that cannot fail. -/
theorem stepR_fine {r q : List Tm} {t : Tm} (h1 : ∀ e, t.2 * cf q (e - t.1) ≠ 0 → (t.2 * cf q (e - t.1)).natAbs ≤ cM ∧ e.natAbs ≤ eM) (h2 : ∀ e, cf r e - t.2 * cf q (e - t.1) ≠ 0 → (cf r e - t.2 * cf q (e - t.1)).natAbs ≤ cM ∧ e.natAbs ≤ eM) : (stepR r t q).big = false := by
  have hb : (colP (mulAll [t] q [])).big = false := colP_of (mulAll_ascn t q) fun e => by rw [mulAll_cf]; exact h1 e
  rcases colP_spec (mulAll_ascn t q) with e | ⟨-, k1, s1⟩
  · rw [e] at hb; simp [bigP] at hb
  unfold stepR addR
  rw [if_neg (by simp [ngP, hb])]
  refine colP_of (putAll_asc (putAll_asc .nil)) fun e => ?_
  have : cf (putAll (ngP (colP (mulAll [t] q []))).ts (putAll r [])) e = cf r e - t.2 * cf q (e - t.1) := by
    unfold cf
    rw [S_putAll, S_putAll]
    show S (dl e) [] + S (dl e) r + S (dl e) ((colP (mulAll [t] q [])).ts.map ngT) = _
    rw [S_ng, s1]
    have := mulAll_cf t q e
    unfold cf at this
    rw [this]
    simp only [S]; omega
  rw [this]
  exact h2 e
/-- An exact quotient. -/
def Exq (p q s : List Tm) : Prop := Can s ∧ ∀ e, cf p e = mc s q e
structure DInv (p q o r : List Tm) : Prop where
  kr : Pok ⟨false, r⟩
  eq : ∀ g, S g p = S g r + S2 g o q
  co : Can o
  low : ∀ u ∈ r, ∀ t ∈ o, t.1 + lo0 q < u.1
  lo : ∀ u ∈ r, lo0 p ≤ u.1
  hi : ∀ u ∈ r, u.1 ≤ hi0 p
  ob : ∀ t ∈ o, t.2.natAbs ≤ cM ∧ lo0 p - lo0 q ≤ t.1 ∧ t.1 ≤ hi0 p - hi0 q
  pre : ∀ s, Exq p q s → ∃ s', s = o ++ s'
theorem DInv.init {p q : List Tm} (k : Pok ⟨false, p⟩) : DInv p q [] p :=
  ⟨k, fun g => by show S g p = S g p + 0; omega, .nil, fun _ _ _ h => by simp at h, lo0_le k.can, hi0_ge k.can, by simp, fun s _ => ⟨s, rfl⟩⟩
theorem S2_app (g : Int → Int) (a b q : List Tm) : S2 g (a ++ b) q = S2 g a q + S2 g b q := S_app _ _ _
theorem tdiv_mul {a b : Int} (h : Int.tmod a b = 0) : Int.tdiv a b * b = a := by
  have := Int.mul_tdiv_add_tmod a b
  rw [h, Int.mul_comm] at this; omega
theorem Can.appR {a b : List Tm} (h : Can (a ++ b)) : Can b := ⟨(List.pairwise_append.1 h.asc).2.1, fun t ht => h.nz t (List.mem_append.2 (.inr ht))⟩
/-- What is left of an exact quotient. -/
theorem DInv.rest {p q o r s' : List Tm} (d : DInv p q o r) (hs : Exq p q (o ++ s')) (e : Int) : cf r e = mc s' q e := by
  have h1 := hs.2 e
  have h2 := d.eq (dl e)
  rw [mc_app] at h1
  have h3 : S2 (dl e) o q = mc o q e := rfl
  rw [h3] at h2
  have h4 : cf p e = S (dl e) p := rfl
  have h5 : cf r e = S (dl e) r := rfl
  omega
theorem DInv.head {p q' o r' s' : List Tm} {a b : Tm} (d : DInv p (b :: q') o (a :: r')) (kq : Can (b :: q')) (hs : Exq p (b :: q') (o ++ s')) : ∃ c s'', s' = c :: s'' ∧ a.1 = c.1 + b.1 ∧ a.2 = c.2 * b.2 := by
  have hr := fun e => d.rest hs e
  have cr : Can (a :: r') := d.kr.can
  cases s' with
  | nil =>
    have := hr a.1
    rw [cr.cf_head] at this
    exact absurd (by rw [this]; rfl) (cr.nz a (.head _))
  | cons c s'' =>
    have cs : Can (c :: s'') := hs.1.appR
    obtain ⟨h1, h2, h3⟩ := ends_mul cr kq (by simp) cs (by simp) hr
    have e1 : a.1 = c.1 + b.1 := h2
    refine ⟨c, s'', rfl, e1, ?_⟩
    have := mc_low cs kq
    rw [show lo0 (c :: s'') + lo0 (b :: q') = a.1 from e1.symm, ← hr, cr.cf_head] at this
    rw [this]
    show cf (c :: s'') c.1 * cf (b :: q') b.1 = _
    rw [cs.cf_head, kq.cf_head]
theorem DInv.step {p q' o r' : List Tm} {a b : Tm} (d : DInv p (b :: q') o (a :: r')) (kp : Can p) (kq : Can (b :: q')) (hm : Int.tmod a.2 b.2 = 0) (hD : a.1 - b.1 ≤ hi0 p - hi0 (b :: q')) (hb : (stepR (a :: r') (stepT a b) (b :: q')).big = false) :
    DInv p (b :: q') (o ++ [stepT a b]) (stepR (a :: r') (stepT a b) (b :: q')).ts ∧ ∀ u ∈ (stepR (a :: r') (stepT a b) (b :: q')).ts, a.1 < u.1 := by
  have cr : Can (a :: r') := d.kr.can
  have anz := cr.nz a (.head _)
  have hd := tdiv_mul hm
  obtain ⟨k, -, hS⟩ := stepR_ok cr hb
  generalize hR : stepR (a :: r') (stepT a b) (b :: q') = R at *
  have h2' : ∀ e, cf R.ts e = cf (a :: r') e - (stepT a b).2 * cf (b :: q') (e - (stepT a b).1) := fun e => by
    have := hS (dl e)
    have e2 : S2 (dl e) [stepT a b] (b :: q') = mc [stepT a b] (b :: q') e := rfl
    rw [e2, mc_one] at this
    exact this
  have up : ∀ u ∈ R.ts, a.1 < u.1 := fun u hu => by
    have h1 := cf_mem k.can hu
    have h2 : cf R.ts u.1 = cf (a :: r') u.1 - (stepT a b).2 * cf (b :: q') (u.1 - (stepT a b).1) := h2' u.1
    have nz := k.can.nz u hu
    refine Classical.byContradiction fun hn => nz ?_
    rw [← h1, h2]
    by_cases he : u.1 = a.1
    · rw [he, cr.cf_head, show a.1 - (stepT a b).1 = b.1 by show a.1 - (a.1 - b.1) = b.1; omega, kq.cf_head]
      show a.2 - Int.tdiv a.2 b.2 * b.2 = 0
      rw [hd]; omega
    · rw [cr.cf_low (by omega), kq.cf_low (show u.1 - (stepT a b).1 < b.1 by show u.1 - (a.1 - b.1) < b.1; omega)]; omega
  have hiR : ∀ u ∈ R.ts, u.1 ≤ hi0 p := fun u hu => by
    refine Classical.byContradiction fun hn => k.can.nz u hu ?_
    rw [← cf_mem k.can hu, h2', cf_none fun v hv => by have := d.hi v hv; omega, cf_none fun v hv => by have := hi0_ge kq v hv; show v.1 ≠ u.1 - (a.1 - b.1); omega]
    omega
  refine ⟨⟨?_, fun g => ?_, ?_, fun u hu t ht => ?_, fun u hu => ?_, hiR, fun t ht => ?_, fun s hs => ?_⟩, up⟩
  · exact ⟨by simp, k.can, k.cf, k.ex⟩
  · rw [d.eq g, hS g, S2_app]; omega
  · refine ⟨List.pairwise_append.2 ⟨d.co.asc, by simp, fun x hx y hy => ?_⟩, fun t ht => ?_⟩
    · rw [List.mem_singleton.1 hy]
      have := d.low a (.head _) x hx
      show x.1 < a.1 - b.1
      have : lo0 (b :: q') = b.1 := rfl
      omega
    · rcases List.mem_append.1 ht with ht | ht
      · exact d.co.nz t ht
      · rw [List.mem_singleton.1 ht]
        intro e0
        have e0 : Int.tdiv a.2 b.2 = 0 := e0
        rw [e0] at hd; omega
  · have h1 := up u hu
    rcases List.mem_append.1 ht with ht | ht
    · have := d.low a (.head _) t ht; omega
    · rw [List.mem_singleton.1 ht]
      show a.1 - b.1 + b.1 < u.1
      omega
  · have := up u hu
    have := d.lo a (.head _)
    omega
  · rcases List.mem_append.1 ht with ht | ht
    · exact d.ob t ht
    · rw [List.mem_singleton.1 ht]
      refine ⟨?_, ?_, hD⟩
      · have h1 := d.kr.cf a (.head _)
        have h2 : (Int.tdiv a.2 b.2).natAbs ≤ a.2.natAbs := by rw [Int.natAbs_tdiv]; exact Nat.div_le_self _ _
        exact Nat.le_trans h2 h1
      · have := d.lo a (.head _)
        show lo0 p - b.1 ≤ a.1 - b.1
        omega
  · obtain ⟨s', rfl⟩ := d.pre s hs
    obtain ⟨c, s'', rfl, e1, e2⟩ := d.head kq hs
    refine ⟨s'', ?_⟩
    have bnz := kq.nz b (.head _)
    have : stepT a b = c := Prod.ext (show a.1 - b.1 = c.1 by omega) (show Int.tdiv a.2 b.2 = c.2 by rw [e2]; exact Int.mul_tdiv_cancel _ bnz)
    rw [this, List.append_assoc]; rfl
/-- Small exponents, and few of them. -/
structure Few (p q : List Tm) : Prop where
  kp : Pok ⟨false, p⟩
  kq : Pok ⟨false, q⟩
  p1 : ∀ t ∈ p, t.2.natAbs ≤ 1000 ∧ t.1.natAbs ≤ 110
  q1 : ∀ t ∈ q, t.2.natAbs ≤ 1000 ∧ t.1.natAbs ≤ 110
  wp : p ≠ [] → hi0 p - lo0 p ≤ 9
  q0 : q ≠ []
theorem Exq.ne {p q s : List Tm} (hx : Exq p q s) (p0 : p ≠ []) (kp : Can p) : s ≠ [] := fun e => by
  subst e
  have := cf_lo kp p0
  rw [hx.2] at this
  exact this rfl
theorem Exq.eqS {p q s : List Tm} (hx : Exq p q s) (kp : Can p) {B : Int} (h : ∀ t ∈ s, ∀ u ∈ q, -B ≤ t.1 + u.1 ∧ t.1 + u.1 ≤ B) (hB : 0 ≤ B) (g : Int → Int) : S g p = S2 g s q := by
  have hr : ∀ t ∈ s, ∀ u ∈ q, -B ≤ t.1 + u.1 ∧ t.1 + u.1 < -B + ((2 * B + 1).toNat : Nat) := fun t ht u hu => by have := h t ht u hu; omega
  rw [← S_mulL hr g]
  congr 1
  exact Can.ext kp (fromC_can _ _ _) fun e => by
    show _ = cf (mulL s q (-B) (2 * B + 1).toNat) e
    rw [cf_mulL hr]; exact hx.2 e
theorem Exq.small {p q s : List Tm} (f : Few p q) (hx : Exq p q s) : ∀ t ∈ s, t.2.natAbs ≤ 100000000000 ∧ t.1.natAbs ≤ 1000 := by
  intro t ht
  have s0 : s ≠ [] := fun e => by rw [e] at ht; cases ht
  have cs := hx.1
  have kqc : Can q := f.kq.can
  have kpc : Can p := f.kp.can
  obtain ⟨p0, h1, h2⟩ := ends_mul kpc kqc f.q0 cs s0 hx.2
  have wp := f.wp p0
  obtain ⟨u1, m1, n1⟩ := lo0_mem p0
  obtain ⟨u2, m2, n2⟩ := hi0_mem p0
  obtain ⟨u3, m3, n3⟩ := lo0_mem f.q0
  obtain ⟨u4, m4, n4⟩ := hi0_mem f.q0
  obtain ⟨u5, m5, n5⟩ := hi0_mem s0
  have b1 := (f.p1 u1 m1).2
  have b2 := (f.p1 u2 m2).2
  have b3 := (f.q1 u3 m3).2
  have b4 := (f.q1 u4 m4).2
  have l1 := lo0_le cs t ht
  have l2 := hi0_ge cs t ht
  have l3 := lo0_le kqc u4 m4
  have l4 := lo0_le cs u5 m5
  have hS := hx.eqS kpc (B := 2000) (fun t ht u hu => by
    have := lo0_le cs t ht
    have := hi0_ge cs t ht
    have := (f.q1 u hu).2
    omega) (by omega)
  have hk := quot_cf (p := p) (y := q) (s := s) (la := lo0 s) (lb := lo0 q) (m := (hi0 s - lo0 s + 1).toNat) (k := (hi0 q - lo0 q + 1).toNat) hS
    (fun u hu => by have := lo0_le cs u hu; have := hi0_ge cs u hu; omega)
    (fun u hu => by have := lo0_le kqc u hu; have := hi0_ge kqc u hu; omega)
    (fun u hu => by have := hi0_ge kpc u hu; omega) (by omega)
    (fun e => cf_abs kpc (fun t ht => (f.p1 t ht).1) e)
    ⟨lo0 q, Int.le_refl _, by omega, cf_lo kqc f.q0⟩ t.1 l1 (by omega)
  rw [cf_mem cs ht] at hk
  exact ⟨hk, by omega⟩
/-- While there is an exact quotient no step fails. -/
theorem DInv.fine {p q' o r' s : List Tm} {a b : Tm} (d : DInv p (b :: q') o (a :: r')) (f : Few p (b :: q')) (hs : Exq p (b :: q') s) : Int.tmod a.2 b.2 = 0 ∧ a.1 - b.1 ≤ hi0 p - hi0 (b :: q') ∧ (stepR (a :: r') (stepT a b) (b :: q')).big = false := by
  have hsm := hs.small f
  obtain ⟨s', rfl⟩ := d.pre s hs
  have kq : Can (b :: q') := f.kq.can
  have kpc : Can p := f.kp.can
  have hrest := d.rest hs
  obtain ⟨c, s'', rfl, e1, e2⟩ := d.head kq hs
  have bnz := kq.nz b (.head _)
  have hc : stepT a b = c := Prod.ext (show a.1 - b.1 = c.1 by omega) (show Int.tdiv a.2 b.2 = c.2 by rw [e2]; exact Int.mul_tdiv_cancel _ bnz)
  have p0 : p ≠ [] := fun e => by
    have h1 := hs.2 (lo0 (o ++ c :: s'') + lo0 (b :: q'))
    rw [mc_low hs.1 kq, e] at h1
    exact Int.mul_ne_zero (cf_lo hs.1 (by simp)) (cf_lo kq (by simp)) h1.symm
  obtain ⟨-, h1, h2⟩ := ends_mul kpc kq (by simp) hs.1 (by simp) hs.2
  have hcm : c ∈ o ++ c :: s'' := by simp
  have hch := hi0_ge hs.1 c hcm
  have hcs := hsm c hcm
  have cs' : Can (c :: s'') := hs.1.appR
  have few : (c :: s'').length ≤ 10 := by
    have wp := f.wp p0
    have hw : ∀ u ∈ c :: s'', c.1 ≤ u.1 ∧ u.1 < c.1 + 10 := fun u hu => by
      have i1 := lo0_le cs' u hu
      have i2 := hi0_ge hs.1 u (by simp only [List.mem_append]; exact .inr hu)
      have i3 := lo0_le hs.1 c hcm
      obtain ⟨u4, m4, n4⟩ := hi0_mem (p := b :: q') (by simp)
      have i4 := lo0_le kq u4 m4
      have i5 : lo0 (c :: s'') = c.1 := rfl
      omega
    exact can_len cs' hw
  refine ⟨by rw [e2]; exact Int.mul_tmod_left _ _, by omega, ?_⟩
  rw [hc]
  refine stepR_fine (fun e he => ?_) fun e he => ?_
  · have hq0 : cf (b :: q') (e - c.1) ≠ 0 := fun z => he (by rw [z, Int.mul_zero])
    obtain ⟨u, hu, eu⟩ := cf_ne hq0
    have := (f.q1 u hu).2
    have := cf_abs kq (fun t ht => (f.q1 t ht).1) (e - c.1)
    have h3 : (c.2 * cf (b :: q') (e - c.1)).natAbs ≤ 100000000000 * 1000 := by rw [Int.natAbs_mul]; exact Nat.mul_le_mul hcs.1 this
    refine ⟨Nat.le_trans h3 (by simp only [cM]; omega), by simp only [eM]; omega⟩
  · have h3 : cf (a :: r') e - c.2 * cf (b :: q') (e - c.1) = mc s'' (b :: q') e := by rw [hrest, mc_cons]; omega
    rw [h3] at he ⊢
    obtain ⟨t, ht, u, hu, eu⟩ := mc_ne he
    have i1 := hsm t (by simp [ht])
    have i2 := (f.q1 u hu).2
    have h4 := mc_abs kq (fun t ht => (f.q1 t ht).1) e (p := s'') (M := 100000000000) fun t ht => (hsm t (by simp [ht])).1
    refine ⟨Nat.le_trans h4 ?_, by simp only [eM]; omega⟩
    simp only [List.length_cons] at few
    have : s''.length * (100000000000 * 1000) ≤ 9 * (100000000000 * 1000) := Nat.mul_le_mul_right _ (by omega)
    simp only [cM]; omega
/-- At the end. -/
theorem DInv.done {p q o : List Tm} (d : DInv p q o []) (f : Few p q) : Exq p q o ∧ Pok ⟨false, o⟩ ∧ ∀ t ∈ o, t.1.natAbs ≤ 300 := by
  have hx : Exq p q o := ⟨d.co, fun e => by
    have := d.eq (dl e)
    show S (dl e) p = _
    rw [this]
    show 0 + S2 (dl e) o q = _
    unfold mc; omega⟩
  have ex : ∀ t ∈ o, t.1.natAbs ≤ 300 := fun t ht => by
    have h1 := d.ob t ht
    have bd : ∀ l : List Tm, (∀ t ∈ l, t.2.natAbs ≤ 1000 ∧ t.1.natAbs ≤ 110) → (lo0 l).natAbs ≤ 110 ∧ (hi0 l).natAbs ≤ 110 := fun l h => by
      by_cases h0 : l = []
      · subst h0; decide
      · obtain ⟨u, m, n⟩ := lo0_mem h0
        obtain ⟨v, m2, n2⟩ := hi0_mem h0
        have := (h u m).2
        have := (h v m2).2
        omega
    have := bd p f.p1
    have := bd q f.q1
    omega
  exact ⟨hx, ⟨by simp, d.co, fun t ht => (d.ob t ht).1, fun t ht => by have := ex t ht; simp only [eM]; omega⟩, ex⟩
end Go.Proofs.YtlnjddjobbhcaaaDoor
