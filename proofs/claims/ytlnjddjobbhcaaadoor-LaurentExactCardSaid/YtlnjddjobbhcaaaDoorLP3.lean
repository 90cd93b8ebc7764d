/- Products of Laurent polynomials: plain. -/
import Derived.Test.YtlnjddjobbhcaaaDoorLP1
namespace Go.Proofs.YtlnjddjobbhcaaaDoor
set_option linter.unusedVariables false

/-- The double sum of a product. -/
def S2 (f : Int → Int) (p q : List Tm) : Int := S (fun a => S (fun b => f (a + b)) q) p
/-- The coefficient of e in the product. -/
def mc (p q : List Tm) (e : Int) : Int := S2 (dl e) p q
theorem S2_comm (f : Int → Int) (p q : List Tm) : S2 f p q = S2 f q p := by
  unfold S2
  rw [S_swap]
  exact S_congr fun t _ => S_congr fun u _ => by rw [Int.add_comm]
theorem mc_comm (p q : List Tm) (e : Int) : mc p q e = mc q p e := S2_comm _ _ _
theorem mc_nil (q : List Tm) (e : Int) : mc [] q e = 0 := rfl
theorem mc_nilr (p : List Tm) (e : Int) : mc p [] e = 0 := by rw [mc_comm]; rfl
theorem mc_app (a b q : List Tm) (e : Int) : mc (a ++ b) q e = mc a q e + mc b q e := S_app _ _ _
theorem cf_shift (q : List Tm) (a e : Int) : S (fun b => dl e (a + b)) q = cf q (e - a) := by
  unfold cf
  refine S_congr fun t _ => ?_
  by_cases h : a + t.1 = e
  · rw [h, dl_self, show t.1 = e - a by omega, dl_self]
  · rw [dl_ne h, dl_ne (by omega)]
theorem mc_S (p q : List Tm) (e : Int) : mc p q e = S (fun a => cf q (e - a)) p := S_congr fun t _ => cf_shift q t.1 e
theorem mc_one (t : Tm) (q : List Tm) (e : Int) : mc [t] q e = t.2 * cf q (e - t.1) := by
  rw [mc_S]; simp [S]
theorem mc_cons (t : Tm) (p q : List Tm) (e : Int) : mc (t :: p) q e = t.2 * cf q (e - t.1) + mc p q e := by
  rw [mc_S, mc_S]; rfl
/-- The product tells its coefficients, and these tell it. -/
theorem sumR_S2 (g : Int → Int) (p q : List Tm) {lo : Int} : ∀ (n : Nat), sumR (fun x => mc p q x * g x) lo n = S2 (fun e => if lo ≤ e ∧ e < lo + n then g e else 0) p q
  | 0 => by
    show 0 = _
    unfold S2
    rw [S_congr (g := fun _ => 0) fun t _ => ?_, S_zero]
    rw [S_congr (g := fun _ => 0) fun u _ => ?_, S_zero]
    dsimp only
    rw [if_neg (by omega)]
  | n + 1 => by
    simp only [sumR]
    rw [sumR_S2 g p q n]
    unfold mc S2
    rw [Int.mul_comm, ← S_mul, ← S_add]
    refine S_congr fun t _ => ?_
    rw [← S_mul, ← S_add]
    refine S_congr fun u _ => ?_
    dsimp only
    by_cases h : t.1 + u.1 = lo + n
    · rw [h, dl_self, if_neg (by omega), if_pos (by omega)]; omega
    · rw [dl_ne h]
      by_cases h2 : lo ≤ t.1 + u.1 ∧ t.1 + u.1 < lo + n
      · rw [if_pos h2, if_pos (by omega)]; omega
      · rw [if_neg h2, if_neg (by omega)]; omega
theorem S2_congr {f g : Int → Int} {p q : List Tm} (h : ∀ t ∈ p, ∀ u ∈ q, f (t.1 + u.1) = g (t.1 + u.1)) : S2 f p q = S2 g p q :=
  S_congr fun t ht => S_congr fun u hu => h t ht u hu
theorem mc_none {p q : List Tm} {e : Int} (h : ∀ t ∈ p, ∀ u ∈ q, t.1 + u.1 ≠ e) : mc p q e = 0 := by
  unfold mc
  rw [S2_congr (g := fun _ => 0) fun t ht u hu => dl_ne (h t ht u hu)]
  unfold S2
  rw [S_congr (g := fun _ => 0) fun t _ => S_zero q, S_zero]
/-- The product, from lo on, n exponents. -/
def mulL (p q : List Tm) (lo : Int) (n : Nat) : List Tm := fromC (mc p q) lo n
theorem S_mulL {p q : List Tm} {lo : Int} {n : Nat} (h : ∀ t ∈ p, ∀ u ∈ q, lo ≤ t.1 + u.1 ∧ t.1 + u.1 < lo + n) (g : Int → Int) : S g (mulL p q lo n) = S2 g p q := by
  unfold mulL
  rw [S_fromC, sumR_S2]
  exact S2_congr fun t ht u hu => if_pos (h t ht u hu)
theorem cf_mulL {p q : List Tm} {lo : Int} {n : Nat} (h : ∀ t ∈ p, ∀ u ∈ q, lo ≤ t.1 + u.1 ∧ t.1 + u.1 < lo + n) (e : Int) : cf (mulL p q lo n) e = mc p q e := S_mulL h _
/-- The lowest, and the highest exponent. -/
def lo0 (p : List Tm) : Int := match p with | [] => 0 | t :: _ => t.1
def hi0 (p : List Tm) : Int := match p.getLast? with | none => 0 | some t => t.1
theorem lo0_le {p : List Tm} (h : Can p) : ∀ t ∈ p, lo0 p ≤ t.1 := by
  cases p with
  | nil => simp
  | cons u r =>
    intro t ht
    rcases List.mem_cons.1 ht with rfl | ht
    · exact Int.le_refl _
    · exact Int.le_of_lt (h.lt t ht)
theorem hi0_cons {t u : Tm} {r : List Tm} : hi0 (t :: u :: r) = hi0 (u :: r) := by simp [hi0, List.getLast?_cons_cons]
theorem hi0_ge : ∀ {p : List Tm}, Can p → ∀ t ∈ p, t.1 ≤ hi0 p
  | [], _, t, ht => by simp at ht
  | [v], _, t, ht => by simp at ht; subst ht; simp [hi0]
  | v :: u :: r, h, t, ht => by
    rw [hi0_cons]
    have ih := hi0_ge h.tail
    rcases List.mem_cons.1 ht with rfl | ht
    · have := h.lt u (.head _)
      have := ih u (.head _)
      omega
    · exact ih t ht
theorem hi0_mem : ∀ {p : List Tm}, p ≠ [] → ∃ t ∈ p, t.1 = hi0 p
  | [], h => absurd rfl h
  | [v], _ => ⟨v, by simp, by simp [hi0]⟩
  | v :: u :: r, _ => by
    obtain ⟨t, h1, h2⟩ := hi0_mem (p := u :: r) (by simp)
    exact ⟨t, .tail _ h1, by rw [hi0_cons]; exact h2⟩
theorem cf_mem {p : List Tm} (h : Can p) : ∀ {t : Tm}, t ∈ p → cf p t.1 = t.2 := by
  induction p with
  | nil => intro t ht; simp at ht
  | cons u r ih =>
    intro t ht
    rcases List.mem_cons.1 ht with rfl | ht
    · exact h.cf_head
    · rw [cf_cons, dl_ne (by have := h.lt t ht; omega), ih h.tail ht]; omega
theorem cf_ne {p : List Tm} {e : Int} (h : cf p e ≠ 0) : ∃ t ∈ p, t.1 = e := by
  refine Classical.byContradiction fun hn => h (cf_none fun t ht he => hn ⟨t, ht, he⟩)
theorem mc_ne {p q : List Tm} {e : Int} (h : mc p q e ≠ 0) : ∃ t ∈ p, ∃ u ∈ q, t.1 + u.1 = e := by
  refine Classical.byContradiction fun hn => h (mc_none fun t ht u hu he => hn ⟨t, ht, u, hu, he⟩)
/-- The products of the extreme terms do not cancel. -/
theorem S_only {f : Int → Int} {p : List Tm} {e : Int} (h : Can p) (h0 : ∀ t ∈ p, t.1 ≠ e → f t.1 = 0) : S f p = cf p e * f e := by
  have h1 : S f p = S (fun x => f e * dl e x) p := S_congr fun t ht => by
    by_cases he : t.1 = e
    · rw [he, dl_self]; omega
    · rw [h0 t ht he, dl_ne he]; omega
  rw [h1, S_mul, Int.mul_comm]; rfl
theorem mc_low {p q : List Tm} (hp : Can p) (hq : Can q) : mc p q (lo0 p + lo0 q) = cf p (lo0 p) * cf q (lo0 q) := by
  rw [mc_S, S_only hp (e := lo0 p) fun t ht hne => ?_]
  · rw [show lo0 p + lo0 q - lo0 p = lo0 q by omega]
  · have := lo0_le hp t ht
    exact cf_none fun u hu => by have := lo0_le hq u hu; omega
theorem mc_high {p q : List Tm} (hp : Can p) (hq : Can q) : mc p q (hi0 p + hi0 q) = cf p (hi0 p) * cf q (hi0 q) := by
  rw [mc_S, S_only hp (e := hi0 p) fun t ht hne => ?_]
  · rw [show hi0 p + hi0 q - hi0 p = hi0 q by omega]
  · have := hi0_ge hp t ht
    exact cf_none fun u hu => by have := hi0_ge hq u hu; omega
theorem cf_lo {p : List Tm} (h : Can p) (h0 : p ≠ []) : cf p (lo0 p) ≠ 0 := by
  cases p with
  | nil => exact absurd rfl h0
  | cons t r =>
    show cf (t :: r) t.1 ≠ 0
    rw [h.cf_head]; exact h.nz t (.head _)
theorem cf_hi {p : List Tm} (h : Can p) (h0 : p ≠ []) : cf p (hi0 p) ≠ 0 := by
  obtain ⟨t, h1, h2⟩ := hi0_mem h0
  rw [← h2, cf_mem h h1]; exact h.nz t h1
/-! ### Bounds -/
theorem cf_abs {p : List Tm} (h : Can p) {M : Nat} (hb : ∀ t ∈ p, t.2.natAbs ≤ M) (e : Int) : (cf p e).natAbs ≤ M := by
  by_cases h0 : cf p e = 0
  · rw [h0]; exact Nat.zero_le _
  · obtain ⟨t, h1, h2⟩ := cf_ne h0
    rw [← h2, cf_mem h h1]; exact hb t h1
theorem mc_abs {q : List Tm} (hq : Can q) {M N : Nat} (hN : ∀ t ∈ q, t.2.natAbs ≤ N) (e : Int) : ∀ {p : List Tm}, (∀ t ∈ p, t.2.natAbs ≤ M) → (mc p q e).natAbs ≤ p.length * (M * N)
  | [], _ => by simp [mc_nil]
  | t :: p, h => by
    rw [mc_cons]
    have ih := mc_abs hq hN e (p := p) fun u hu => h u (.tail _ hu)
    have h1 := Int.natAbs_add_le (t.2 * cf q (e - t.1)) (mc p q e)
    rw [Int.natAbs_mul] at h1
    have h2 := Nat.mul_le_mul (h t (.head _)) (cf_abs hq hN (e - t.1))
    rw [List.length_cons, Nat.succ_mul]
    omega
end Go.Proofs.YtlnjddjobbhcaaaDoor


namespace Go.Proofs.YtlnjddjobbhcaaaDoor
set_option linter.unusedVariables false

theorem S_part (f : Int → Int) (c : Tm → Bool) : ∀ l, S f l = S f (l.filter c) + S f (l.filter fun t => !c t)
  | [] => rfl
  | t :: r => by
    have ih := S_part f c r
    cases h : c t
    · rw [List.filter_cons_of_neg (by simp [h]), List.filter_cons_of_pos (by simp [h])]
      simp only [S, ih]; omega
    · rw [List.filter_cons_of_pos h, List.filter_cons_of_neg (by simp [h])]
      simp only [S, ih]; omega
theorem Can.filter {l : List Tm} (h : Can l) (c : Tm → Bool) : Can (l.filter c) :=
  ⟨h.asc.filter _, fun t ht => h.nz t (List.mem_filter.1 ht).1⟩
/-- What is left of the dividend, at its exponent number k. -/
def rk (p q r : List Tm) (k : Nat) : Int := cf p (lo0 p + k) - mc r q (lo0 p + k)
/-- The quotient, as far as the first i exponents. -/
def dvL (p q : List Tm) (M X : Nat) : Nat → Option (List Tm)
  | 0 => some []
  | i + 1 => (dvL p q M X i).bind fun r =>
    if rk p q r i = 0 then some r
    else if rk p q r i % cf q (lo0 q) = 0 ∧ (rk p q r i / cf q (lo0 q)).natAbs ≤ M ∧ (lo0 p - lo0 q + i).natAbs ≤ X then some (r ++ [(lo0 p - lo0 q + i, rk p q r i / cf q (lo0 q))]) else none
/-- The steps of the division. -/
def dvN (p q : List Tm) : Int := hi0 p - lo0 p - (hi0 q - lo0 q)
structure DvOk (p q : List Tm) (M X i : Nat) (r : List Tm) : Prop where
  can : Can r
  rng : ∀ t ∈ r, lo0 p - lo0 q ≤ t.1 ∧ t.1 < lo0 p - lo0 q + i
  bd : ∀ t ∈ r, t.2.natAbs ≤ M ∧ t.1.natAbs ≤ X
  zero : ∀ k, k < i → rk p q r k = 0
theorem rk_snoc (p q r : List Tm) (t : Tm) (k : Nat) : rk p q (r ++ [t]) k = rk p q r k - t.2 * cf q (lo0 p + k - t.1) := by
  unfold rk
  rw [mc_app, mc_one]; omega
theorem cf_lt {q : List Tm} (hq : Can q) {e : Int} (h : e < lo0 q) : cf q e = 0 := cf_none fun u hu => by have := lo0_le hq u hu; omega
theorem cf_gt {q : List Tm} (hq : Can q) {e : Int} (h : hi0 q < e) : cf q e = 0 := cf_none fun u hu => by have := hi0_ge hq u hu; omega
theorem dv_ok {p q : List Tm} {M X : Nat} (hq : Can q) (h0 : q ≠ []) : ∀ {i : Nat} {r : List Tm}, dvL p q M X i = some r → DvOk p q M X i r
  | 0, r, h => by
    simp [dvL] at h; subst h
    exact ⟨.nil, by simp, by simp, fun k hk => absurd hk (Nat.not_lt_zero _)⟩
  | i + 1, r', h => by
    rw [dvL, Option.bind_eq_some_iff] at h
    obtain ⟨r, h1, h⟩ := h
    have ih := dv_ok hq h0 h1
    have hc0 := cf_lo hq h0
    split at h
    · rename_i hz
      cases h
      refine ⟨ih.can, fun t ht => ⟨(ih.rng t ht).1, by have := (ih.rng t ht).2; omega⟩, ih.bd, fun k hk => ?_⟩
      by_cases e : k = i
      · rw [e]; exact hz
      · exact ih.zero k (by omega)
    · rename_i hz
      split at h
      · rename_i hd
        cases h
        have hdv : rk p q r i / cf q (lo0 q) * cf q (lo0 q) = rk p q r i := Int.ediv_mul_cancel (Int.dvd_of_emod_eq_zero hd.1)
        refine ⟨⟨List.pairwise_append.2 ⟨ih.can.asc, by simp, fun a ha b hb => ?_⟩, fun t ht => ?_⟩, fun t ht => ?_, fun t ht => ?_, fun k hk => ?_⟩
        · simp at hb; subst hb
          exact (ih.rng a ha).2
        · rcases List.mem_append.1 ht with ht | ht
          · exact ih.can.nz t ht
          · simp at ht; subst ht
            intro e
            simp only at e
            rw [e] at hdv; simp at hdv; exact hz hdv.symm
        · rcases List.mem_append.1 ht with ht | ht
          · have := ih.rng t ht; omega
          · simp at ht; subst ht; simp only; omega
        · rcases List.mem_append.1 ht with ht | ht
          · exact ih.bd t ht
          · simp at ht; subst ht; exact hd.2
        · rw [rk_snoc]
          simp only
          by_cases e : k = i
          · subst e
            rw [show lo0 p + (k : Int) - (lo0 p - lo0 q + k) = lo0 q by omega, hdv]; omega
          · rw [ih.zero k (by omega), cf_lt hq (e := lo0 p + k - (lo0 p - lo0 q + i)) (by omega), Int.mul_zero]; rfl
      · cases h
/-- The quotient, if the division comes out even. -/
noncomputable def dvR (p q : List Tm) (M X : Nat) : Option (List Tm) := open Classical in
  if dvN p q < 0 then none else (dvL p q M X ((dvN p q).toNat + 1)).bind fun r => if ∀ k : Nat, (dvN p q).toNat < k → (k : Int) ≤ hi0 p - lo0 p → rk p q r k = 0 then some r else none
theorem dv_sound {p q r : List Tm} {M X : Nat} (hp : Can p) (hq : Can q) (h0 : q ≠ []) (h : dvR p q M X = some r) : Can r ∧ (∀ t ∈ r, t.2.natAbs ≤ M ∧ t.1.natAbs ≤ X) ∧ ∀ e, mc r q e = cf p e := by
  unfold dvR at h
  split at h
  · cases h
  · rename_i hn
    rw [Option.bind_eq_some_iff] at h
    obtain ⟨r1, h1, h⟩ := h
    split at h
    · rename_i hz
      cases h
      have d := dv_ok hq h0 h1
      refine ⟨d.can, d.bd, fun e => ?_⟩
      unfold dvN at *
      by_cases hl : lo0 p ≤ e ∧ e ≤ hi0 p
      · have hk : rk p q r (e - lo0 p).toNat = 0 := by
          by_cases hk : (e - lo0 p).toNat < (hi0 p - lo0 p - (hi0 q - lo0 q)).toNat + 1
          · exact d.zero _ hk
          · exact hz _ (by omega) (by omega)
        unfold rk at hk
        rw [show lo0 p + ((e - lo0 p).toNat : Int) = e by omega] at hk
        omega
      · have a : cf p e = 0 := by
          by_cases h2 : e < lo0 p
          · exact cf_lt hp h2
          · exact cf_gt hp (by omega)
        rw [a]
        refine mc_none fun t ht u hu he => ?_
        have b := d.rng t ht
        have c := lo0_le hq u hu
        have c2 := hi0_ge hq u hu
        omega
    · cases h
/-- A product is divided by one factor. -/
theorem dv_complete {p q s : List Tm} {M X : Nat} (hp : Can p) (hq : Can q) (h0 : q ≠ []) (hs : Can s) (hs0 : s ≠ []) (hb : ∀ t ∈ s, t.2.natAbs ≤ M ∧ t.1.natAbs ≤ X) (hm : ∀ e, cf p e = mc s q e) : dvR p q M X = some s := by
  have hc0 := cf_lo hq h0
  have hp0 : p ≠ [] := fun e => by
    have h1 := hm (lo0 s + lo0 q)
    rw [mc_low hs hq, e] at h1
    exact Int.mul_ne_zero (cf_lo hs hs0) hc0 h1.symm
  have hl : lo0 p = lo0 s + lo0 q := by
    have h1 : cf p (lo0 s + lo0 q) ≠ 0 := by
      rw [hm, mc_low hs hq]; exact Int.mul_ne_zero (cf_lo hs hs0) hc0
    obtain ⟨t, t1, t2⟩ := cf_ne h1
    have h2 := lo0_le hp t t1
    have h3 := cf_lo hp hp0
    rw [hm] at h3
    obtain ⟨a, a1, b, b1, e⟩ := mc_ne h3
    have := lo0_le hs a a1
    have := lo0_le hq b b1
    omega
  have hh : hi0 p = hi0 s + hi0 q := by
    have h1 : cf p (hi0 s + hi0 q) ≠ 0 := by
      rw [hm, mc_high hs hq]; exact Int.mul_ne_zero (cf_hi hs hs0) (cf_hi hq h0)
    obtain ⟨t, t1, t2⟩ := cf_ne h1
    have h2 := hi0_ge hp t t1
    have h3 := cf_hi hp hp0
    rw [hm] at h3
    obtain ⟨a, a1, b, b1, e⟩ := mc_ne h3
    have := hi0_ge hs a a1
    have := hi0_ge hq b b1
    omega
  have hsl := lo0_le hs
  have hsh := hi0_ge hs
  have hw : lo0 s ≤ hi0 s := by
    obtain ⟨t, t1, t2⟩ := hi0_mem hs0
    have := hsl t t1; omega
  have key : ∀ (i : Nat) (k : Nat), rk p q (s.filter fun t => decide (t.1 < lo0 s + i)) k = mc (s.filter fun t => !decide (t.1 < lo0 s + i)) q (lo0 p + k) := fun i k => by
    unfold rk
    rw [hm]
    have := S_part (fun a => S (fun b => dl (lo0 p + k) (a + b)) q) (fun t => decide (t.1 < lo0 s + i)) s
    unfold mc S2
    rw [this]; omega
  have step : ∀ i : Nat, rk p q (s.filter fun t => decide (t.1 < lo0 s + i)) i = cf s (lo0 s + i) * cf q (lo0 q) := fun i => by
    rw [key, mc_S, S_only (hs.filter _) (e := lo0 s + i) fun t ht hne => ?_]
    · have h2 : cf (s.filter fun t => !decide (t.1 < lo0 s + i)) (lo0 s + i) = cf s (lo0 s + i) := by
        have := S_part (dl (lo0 s + i)) (fun t => decide (t.1 < lo0 s + i)) s
        unfold cf
        rw [this, show S (dl (lo0 s + ↑i)) (s.filter fun t => decide (t.1 < lo0 s + i)) = 0 from cf_none fun t ht => by have := (List.mem_filter.1 ht).2; simp at this; omega]
        omega
      rw [h2, show lo0 p + (i : Int) - (lo0 s + i) = lo0 q by omega]
    · have := (List.mem_filter.1 ht).2
      simp at this
      exact cf_lt hq (by omega)
  have all : ∀ i : Nat, dvL p q M X i = some (s.filter fun t => decide (t.1 < lo0 s + i)) := fun i => by
    induction i with
    | zero =>
      rw [dvL, List.filter_eq_nil_iff.2]
      intro t ht
      have := hsl t ht
      simp; omega
    | succ i ih =>
      rw [dvL, ih, Option.bind_some, step]
      by_cases hz : cf s (lo0 s + i) = 0
      · rw [if_pos (by rw [hz, Int.zero_mul])]
        congr 1
        refine List.filter_congr fun t ht => ?_
        have hne : t.1 ≠ lo0 s + i := fun e => by
          have := cf_mem hs ht
          rw [e, hz] at this
          exact hs.nz t ht this.symm
        simp only [decide_eq_decide]; omega
      · rw [if_neg (Int.mul_ne_zero hz hc0), Int.mul_emod_left, Int.mul_ediv_cancel _ hc0]
        obtain ⟨t, t1, t2⟩ := cf_ne hz
        have ht := cf_mem hs t1
        rw [t2] at ht
        have hbt := hb t t1
        rw [if_pos ⟨rfl, by rw [ht]; exact hbt.1, by rw [show lo0 p - lo0 q + (i : Int) = t.1 by omega]; exact hbt.2⟩]
        congr 1
        -- the terms below are those below, and this one
        have hcan1 : Can (s.filter fun t => decide (t.1 < lo0 s + i) ) := hs.filter _
        refine Can.ext ?_ (hs.filter _) fun e => ?_
        · refine ⟨List.pairwise_append.2 ⟨hcan1.asc, by simp, fun a ha b hb => ?_⟩, fun u hu => ?_⟩
          · simp at hb; subst hb
            have := (List.mem_filter.1 ha).2
            simp at this; simp only; omega
          · rcases List.mem_append.1 hu with hu | hu
            · exact hcan1.nz u hu
            · simp at hu; subst hu; exact hz
        · rw [cf_app, cf_cons]
          simp only
          rw [show cf [] e = 0 from rfl, show lo0 p - lo0 q + (i : Int) = lo0 s + i by omega]
          have f1 : ∀ j : Nat, cf (s.filter fun t => decide (t.1 < lo0 s + j)) e = if e < lo0 s + j then cf s e else 0 := fun j => by
            have := S_part (dl e) (fun t => decide (t.1 < lo0 s + j)) s
            by_cases hej : e < lo0 s + j
            · rw [if_pos hej]
              have z : S (dl e) (s.filter fun t => !decide (t.1 < lo0 s + j)) = 0 := cf_none fun t ht => by have := (List.mem_filter.1 ht).2; simp at this; omega
              unfold cf
              rw [this, z]; omega
            · rw [if_neg hej]
              exact cf_none fun t ht => by have := (List.mem_filter.1 ht).2; simp at this; omega
          rw [f1 i, f1 (i + 1)]
          by_cases he : e = lo0 s + i
          · subst he
            rw [if_neg (by omega), dl_self, if_pos (by omega)]; omega
          · rw [dl_ne (by omega)]
            by_cases h2 : e < lo0 s + i
            · rw [if_pos h2, if_pos (by omega)]; omega
            · rw [if_neg h2, if_neg (by omega)]; omega
  have hn : dvN p q = hi0 s - lo0 s := by unfold dvN; omega
  unfold dvR
  rw [if_neg (by omega), all, hn, Option.bind_some]
  have hall : (s.filter fun t => decide (t.1 < lo0 s + ((hi0 s - lo0 s).toNat + 1 : Nat))) = s := by
    refine List.filter_eq_self.2 fun t ht => ?_
    have := hsh t ht
    simp; omega
  rw [hall, if_pos fun k _ _ => ?_]
  unfold rk
  rw [hm]; omega
end Go.Proofs.YtlnjddjobbhcaaaDoor

