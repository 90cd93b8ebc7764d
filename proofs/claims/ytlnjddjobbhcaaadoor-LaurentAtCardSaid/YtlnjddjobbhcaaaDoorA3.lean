/- Polynomials within the law's bounds: plain. -/
import Derived.Test.YtlnjddjobbhcaaaDoorA2
namespace Go.Proofs.YtlnjddjobbhcaaaDoor
open Go.Ab
set_option linter.unusedVariables false
set_option linter.unusedSimpArgs false
set_option maxHeartbeats 4000000

def gq : Nat → Nat
  | 0 => 0
  | i + 1 => gq i + 4 ^ (i + 4)
theorem gq_mono {i j : Nat} (h : i ≤ j) : gq i ≤ gq j := by
  induction j with
  | zero => obtain rfl : i = 0 := by omega
            exact Nat.le_refl _
  | succ j ih =>
    by_cases e : i = j + 1
    · rw [e]; exact Nat.le_refl _
    · exact Nat.le_trans (ih (by omega)) (Nat.le_add_right _ _)
structure Sm (p : Pol) : Prop where
  big : p.big = false
  ok : Pok p
  ex : ∀ t ∈ p.ts, -4 ≤ t.1 ∧ t.1 ≤ 4 ∧ t.2.natAbs ≤ 100
  len : p.ts.length ≤ 5
  pa : ∀ X : Nat, 1 ≤ X → X ≤ 4 → pa X (-4) p.ts ≤ 8729600
theorem ofN_sm {low : Int} {xs : List Int} (hl : -4 ≤ low ∧ low ≤ 0) (hn : xs.length ≤ 5) (hx : ∀ k, k < xs.length → (xs.getD k 0).natAbs ≤ 100) : ∀ {i : Nat}, i ≤ xs.length → ∃ r, ofN low xs i = some r ∧ (∀ t ∈ r, t.2.natAbs ≤ 100) ∧ ∀ X : Nat, 1 ≤ X → X ≤ 4 → pa X (-4) r ≤ 100 * gq i
  | 0, _ => ⟨[], rfl, by simp, fun X _ _ => Nat.le_refl _⟩
  | i + 1, hi => by
    obtain ⟨r, h1, h2, h3⟩ := ofN_sm hl hn hx (i := i) (by omega)
    have hv := hx i (by omega)
    by_cases hz : xs.getD i 0 = 0
    · refine ⟨r, by rw [ofN, h1, Option.bind_some, if_pos hz], h2, fun X a b => ?_⟩
      have := h3 X a b
      rw [gq, Nat.mul_add]; omega
    · refine ⟨r ++ [(low + i, xs.getD i 0)], by rw [ofN, h1, Option.bind_some, if_neg hz, if_pos ⟨by simp only [cM]; omega, by simp only [eM]; omega, by simp only [eM]; omega⟩], fun t ht => ?_, fun X a b => ?_⟩
      · rcases List.mem_append.1 ht with ht | ht
        · exact h2 t ht
        · simp at ht; subst ht; exact hv
      · have := h3 X a b
        have e1 : pa X (-4) [(low + (i : Int), xs.getD i 0)] = (xs.getD i 0).natAbs * X ^ (low + i - (-4)).toNat := by simp [pa]
        have e2 : X ^ (low + i - (-4)).toNat ≤ 4 ^ (i + 4) := Nat.le_trans (Nat.pow_le_pow_left b _) (Nat.pow_le_pow_right (by omega) (by omega))
        have e3 := Nat.mul_le_mul hv e2
        rw [pa_app, e1, gq, Nat.mul_add]; omega
theorem ofP_rng9 {low : Int} {xs : List Int} : ∀ t ∈ (ofP low xs).ts, low ≤ t.1 ∧ t.1 < low + xs.length := by
  unfold ofP
  cases h : ofN low xs xs.length with
  | none => simp [bigP]
  | some r => exact fun t ht => let ⟨a, b, _⟩ := (ofN_ok h).2.1 t ht; ⟨a, b⟩
theorem ofP_sm {low : Int} {xs : List Int} (hl : -4 ≤ low ∧ low ≤ 0) (hn : xs.length ≤ 5) (hx : ∀ k, k < xs.length → (xs.getD k 0).natAbs ≤ 100) : Sm (ofP low xs) := by
  obtain ⟨r, h1, h2, h3⟩ := ofN_sm hl hn hx (Nat.le_refl _)
  have e : ofP low xs = ⟨false, r⟩ := by unfold ofP; rw [h1]
  have ok := ofP_ok low xs
  have rg := @ofP_rng9 low xs
  rw [e] at ok rg ⊢
  refine ⟨rfl, ok, fun t ht => ?_, ?_, fun X a b => Nat.le_trans (h3 X a b) ?_⟩
  · have := rg t ht
    have := h2 t ht
    omega
  · exact Nat.le_trans (ofN_len h1) hn
  · have := gq_mono hn
    have e5 : gq 5 = 87296 := rfl
    omega
theorem pa_crude {X : Nat} (hX : X ≤ 4) {a : Int} {k M : Nat} : ∀ {ts : List Tm}, (∀ t ∈ ts, t.1 - a ≤ k ∧ t.2.natAbs ≤ M) → pa X a ts ≤ ts.length * (M * 4 ^ k)
  | [], _ => Nat.zero_le _
  | t :: r, h => by
    have h1 := pa_crude hX (ts := r) fun u hu => h u (.tail _ hu)
    obtain ⟨h2, h3⟩ := h t (.head _)
    have h4 : X ^ (t.1 - a).toNat ≤ 4 ^ k := Nat.le_trans (Nat.pow_le_pow_left hX _) (Nat.pow_le_pow_right (by omega) (by omega))
    have h5 := Nat.mul_le_mul h3 h4
    rw [pa, List.length_cons, Nat.succ_mul]; omega
/-- The sum. -/
structure SmA (p q : Pol) : Prop where
  eq : addP p q = ⟨false, mA p.ts q.ts⟩
  can : Can (mA p.ts q.ts)
  ex : ∀ t ∈ mA p.ts q.ts, -4 ≤ t.1 ∧ t.1 ≤ 4 ∧ t.2.natAbs ≤ 200
  pa : ∀ X : Nat, 1 ≤ X → X ≤ 4 → pa X (-4) (mA p.ts q.ts) ≤ 117964800
theorem sm_add {p q : Pol} (sp : Sm p) (sq : Sm q) : SmA p q := by
  have hc : Can (mA p.ts q.ts) := mrg_can sp.ok.can sq.ok.can
  have hex : ∀ t ∈ mA p.ts q.ts, -4 ≤ t.1 ∧ t.1 ≤ 4 ∧ t.2.natAbs ≤ 200 := fun t ht => by
    have h1 : -4 ≤ t.1 ∧ t.1 ≤ 4 := by
      rcases mrg_mem ht with ⟨u, hu, e⟩ | ⟨u, hu, e⟩
      · have := sp.ex u hu; omega
      · have := sq.ex u hu; omega
    have h2 : t.2 = cf p.ts t.1 + cf q.ts t.1 := by rw [← cf_mem hc ht]; exact S_mA _ _ _
    have h3 := cf_abs sp.ok.can (fun u hu => (sp.ex u hu).2.2) t.1
    have h4 := cf_abs sq.ok.can (fun u hu => (sq.ex u hu).2.2) t.1
    omega
  have hl : (mA p.ts q.ts).length ≤ 9 := can_len (lo := -4) hc fun t ht => by have := hex t ht; omega
  refine ⟨?_, hc, hex, fun X _ hX => ?_⟩
  · unfold addP
    rw [if_neg (by simp [sp.big, sq.big]), if_pos (show fitL (mA p.ts q.ts) from fun t ht => by have := (hex t ht).2.2; simp only [cM]; omega)]
  · have h1 := pa_crude hX (a := -4) (k := 8) (M := 200) (ts := mA p.ts q.ts) fun t ht => by have := hex t ht; omega
    have h2 := Nat.mul_le_mul_right (200 * 4 ^ 8) hl
    omega
/-- The product. -/
structure SmM (p q M : Pol) : Prop where
  big : M.big = false
  can : Can M.ts
  ex : ∀ t ∈ M.ts, -8 ≤ t.1 ∧ t.1 ≤ 8 ∧ t.2.natAbs ≤ 50000
  pa : ∀ X : Nat, 1 ≤ X → X ≤ 4 → pa X (-8) M.ts ≤ 76205916160000
  pv : ∀ x, pv x (-8) M.ts = pv x (-4) p.ts * pv x (-4) q.ts
  sv : ∀ x, sv x M.ts = sv x p.ts * sv x q.ts
  cf : (∀ t ∈ p.ts, 0 ≤ t.1) → (∀ t ∈ q.ts, 0 ≤ t.1) → cf M.ts 0 = cf p.ts 0 * cf q.ts 0
  lo : (∀ t ∈ p.ts, 0 ≤ t.1) → (∀ t ∈ q.ts, 0 ≤ t.1) → ∀ t ∈ M.ts, 0 ≤ t.1
theorem sm_mul {p q : Pol} (sp : Sm p) (sq : Sm q) : SmM p q (mulP p q) := by
  have nb : ¬ (p.big = true ∨ q.big = true) := by simp [sp.big, sq.big]
  by_cases h0 : p.ts = [] ∨ q.ts = []
  · have e : mulP p q = zeroP := by unfold mulP; rw [if_neg nb, if_pos h0]
    rw [e]
    have hS : ∀ f g : Int → Int, S f p.ts * S g q.ts = 0 := fun f g => by
      rcases h0 with h | h <;> rw [h] <;> simp [S]
    exact ⟨rfl, .nil, by simp, fun _ _ _ => Nat.zero_le _, fun x => (hS _ _).symm, fun x => (hS _ _).symm, fun _ _ => (hS _ _).symm, by simp⟩
  · have p0 : p.ts ≠ [] := fun h => h0 (.inl h)
    have q0 : q.ts ≠ [] := fun h => h0 (.inr h)
    obtain ⟨a, a1, a2⟩ := lo0_mem p0
    obtain ⟨b, b1, b2⟩ := lo0_mem q0
    obtain ⟨c, c1, c2⟩ := hi0_mem p0
    obtain ⟨d, d1, d2⟩ := hi0_mem q0
    have := sp.ex a a1
    have := sq.ex b b1
    have := sp.ex c c1
    have := sq.ex d d1
    have hr := mul_rng sp.ok.can sq.ok.can
    have hcf : ∀ e, (mc p.ts q.ts e).natAbs ≤ 50000 := fun e => by
      have h1 := mc_abs (p := p.ts) sq.ok.can (fun t ht => (sq.ex t ht).2.2) e (fun t ht => (sp.ex t ht).2.2)
      have h2 := Nat.mul_le_mul_right (100 * 100) sp.len
      omega
    have hmem : ∀ t ∈ mulL p.ts q.ts (mulLo p.ts q.ts) (mulN p.ts q.ts), mulLo p.ts q.ts ≤ t.1 ∧ t.1 < mulLo p.ts q.ts + mulN p.ts q.ts ∧ t.2.natAbs ≤ 50000 := fun t ht => by
      obtain ⟨h1, h2, h3, -⟩ := fromC_mem.1 ht
      exact ⟨h1, h2, by rw [h3]; exact hcf _⟩
    have hlo : mulLo p.ts q.ts = lo0 p.ts + lo0 q.ts := rfl
    have e : mulP p q = ⟨false, mulL p.ts q.ts (mulLo p.ts q.ts) (mulN p.ts q.ts)⟩ := by
      unfold mulP
      rw [if_neg nb, if_neg h0, if_neg (by omega), if_pos fun t ht => by have := (hmem t ht).2.2; simp only [cM]; omega]
    rw [e]
    have hN : ((mulN p.ts q.ts : Nat) : Int) ≤ hi0 p.ts + hi0 q.ts - (lo0 p.ts + lo0 q.ts) + 1 ∨ mulN p.ts q.ts = 0 := by unfold mulN; omega
    refine ⟨rfl, fromC_can _ _ _, fun t ht => ?_, fun X h1 h4 => ?_, fun x => ?_, fun x => sv_mul hr x, fun hp hq => ?_, fun hp hq t ht => ?_⟩
    · have := hmem t ht; omega
    · have h5 := pa_mul hr X (a := -4) (b := -4) (fun t ht => (sp.ex t ht).1) (fun t ht => (sq.ex t ht).1)
      have h6 := Nat.mul_le_mul (sp.pa X h1 h4) (sq.pa X h1 h4)
      exact Nat.le_trans h5 (by omega)
    · exact pv_mul hr x (a := -4) (b := -4) (fun t ht => (sp.ex t ht).1) (fun t ht => (sq.ex t ht).1)
    · unfold cf
      rw [S_mulL hr]
      refine S2_mul fun t ht u hu => ?_
      have h1 := hp t ht
      have h2 := hq u hu
      unfold dl
      by_cases e1 : t.1 = 0 <;> by_cases e2 : u.1 = 0
      · rw [if_pos (by omega), if_pos e1, if_pos e2]; rfl
      · rw [if_neg (by omega), if_pos e1, if_neg e2]; rfl
      · rw [if_neg (by omega), if_neg e1, if_pos e2]; rfl
      · rw [if_neg (by omega), if_neg e1, if_neg e2]; rfl
    · have h1 := (hmem t ht).1
      have := hp a a1
      have := hq b b1
      omega
theorem lo_nn {ts : List Tm} (h : ∀ t ∈ ts, 0 ≤ t.1) : ¬ lo0 ts < 0 := by
  cases ts with
  | nil => simp [lo0]
  | cons t r => have := h t (.head _); show ¬ t.1 < 0; omega
theorem nn_lo {ts : List Tm} (hc : Can ts) (h : ¬ lo0 ts < 0) : ∀ t ∈ ts, 0 ≤ t.1 := fun t ht => by have := lo0_le hc t ht; omega
end Go.Proofs.YtlnjddjobbhcaaaDoor
