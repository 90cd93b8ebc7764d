/- Values of sums and products: plain. -/
import Derived.Test.YtlnjddjobbhcaaaDoorV8
import Derived.Test.YtlnjddjobbhcaaaDoorC3
import Derived.Test.YtlnjddjobbhcaaaDoorPZ
namespace Go.Proofs.YtlnjddjobbhcaaaDoor
open Go.Ab
set_option linter.unusedVariables false
set_option linter.unusedSimpArgs false

theorem S2_mul {f g k : Int → Int} {p q : List Tm} (h : ∀ t ∈ p, ∀ u ∈ q, f (t.1 + u.1) = g t.1 * k u.1) : S2 f p q = S g p * S k q := by
  unfold S2
  rw [S_congr (g := fun s => S k q * g s) fun t ht => ?_, S_mul, Int.mul_comm]
  rw [S_congr (g := fun u => g t.1 * k u) fun u hu => h t ht u hu, S_mul, Int.mul_comm]
/-- Absolute values. -/
def abL (ts : List Tm) : List Tm := ts.map fun t => (t.1, (t.2.natAbs : Int))
theorem pa_S (X : Nat) (a : Int) : ∀ ts : List Tm, ((pa X a ts : Nat) : Int) = S (fun e => (X : Int) ^ (e - a).toNat) (abL ts)
  | [] => rfl
  | t :: r => by
    have := pa_S X a r
    show ((t.2.natAbs * X ^ (t.1 - a).toNat + pa X a r : Nat) : Int) = (t.2.natAbs : Int) * (X : Int) ^ (t.1 - a).toNat + S (fun e => (X : Int) ^ (e - a).toNat) (abL r)
    rw [← this, Int.natCast_add, Int.natCast_mul, Int.natCast_pow]
theorem S_nonneg {f : Int → Int} (hf : ∀ e, 0 ≤ f e) : ∀ ts : List Tm, 0 ≤ S f (abL ts)
  | [] => Int.le_refl _
  | t :: r => by
    have h1 := S_nonneg hf r
    have h2 : 0 ≤ (t.2.natAbs : Int) * f t.1 := Int.mul_nonneg (by omega) (hf _)
    show 0 ≤ (t.2.natAbs : Int) * f t.1 + S f (abL r)
    omega
theorem S_absle (f : Int → Int) : ∀ ts : List Tm, ((S f ts).natAbs : Int) ≤ S (fun e => ((f e).natAbs : Int)) (abL ts)
  | [] => Int.le_refl _
  | t :: r => by
    have h1 := S_absle f r
    have h2 : ((t.2 * f t.1).natAbs : Int) = (t.2.natAbs : Int) * ((f t.1).natAbs : Int) := by rw [Int.natAbs_mul]; rfl
    show ((t.2 * f t.1 + S f r).natAbs : Int) ≤ (t.2.natAbs : Int) * ((f t.1).natAbs : Int) + S (fun e => ((f e).natAbs : Int)) (abL r)
    omega
theorem S_monoA {f g : Int → Int} (h : ∀ e, f e ≤ g e) : ∀ ts : List Tm, S f (abL ts) ≤ S g (abL ts)
  | [] => Int.le_refl _
  | t :: r => by
    have h1 := S_monoA h r
    have h2 : (t.2.natAbs : Int) * f t.1 ≤ (t.2.natAbs : Int) * g t.1 := Int.mul_le_mul_of_nonneg_left (h _) (by omega)
    show (t.2.natAbs : Int) * f t.1 + S f (abL r) ≤ (t.2.natAbs : Int) * g t.1 + S g (abL r)
    omega
theorem mc_absle (p q : List Tm) (e : Int) : ((mc p q e).natAbs : Int) ≤ mc (abL p) (abL q) e := by
  unfold mc S2
  refine Int.le_trans (S_absle _ p) (S_monoA (fun a => ?_) p)
  refine Int.le_trans (S_absle _ q) (Int.le_of_eq ?_)
  exact S_congr fun t _ => by unfold dl; split <;> rfl
theorem pa_put (X : Nat) (c e v : Int) : pa X c (put e v) = v.natAbs * X ^ (e - c).toNat := by
  unfold put
  split
  · rename_i h; subst h; simp [pa]
  · simp [pa]
theorem pa_fromC (X : Nat) (c : Int) (g : Int → Int) (lo : Int) : ∀ n, ((pa X c (fromC g lo n) : Nat) : Int) = sumR (fun e => ((g e).natAbs : Int) * (X : Int) ^ (e - c).toNat) lo n
  | 0 => rfl
  | n + 1 => by
    rw [fromC_succ, pa_app, pa_put, Int.natCast_add, pa_fromC X c g lo n, Int.natCast_mul, Int.natCast_pow]; rfl
theorem sumR_mono {f g : Int → Int} (h : ∀ e, f e ≤ g e) (lo : Int) : ∀ n, sumR f lo n ≤ sumR g lo n
  | 0 => Int.le_refl _
  | n + 1 => by
    have := sumR_mono h lo n
    have := h (lo + n)
    simp only [sumR]; omega
theorem pow_split (x : Int) {a b s u : Int} (ha : a ≤ s) (hb : b ≤ u) : x ^ (s + u - (a + b)).toNat = x ^ (s - a).toNat * x ^ (u - b).toNat := by
  rw [← Int.pow_add, show (s - a).toNat + (u - b).toNat = (s + u - (a + b)).toNat by omega]
theorem pa_mul {p q : List Tm} {lo : Int} {n : Nat} (hr : ∀ t ∈ p, ∀ u ∈ q, lo ≤ t.1 + u.1 ∧ t.1 + u.1 < lo + n) (X : Nat) {a b : Int} (ha : ∀ t ∈ p, a ≤ t.1) (hb : ∀ u ∈ q, b ≤ u.1) : pa X (a + b) (mulL p q lo n) ≤ pa X a p * pa X b q := by
  have hr2 : ∀ t ∈ abL p, ∀ u ∈ abL q, lo ≤ t.1 + u.1 ∧ t.1 + u.1 < lo + n := fun t ht u hu => by
    obtain ⟨t', h1, rfl⟩ := List.mem_map.1 ht
    obtain ⟨u', h2, rfl⟩ := List.mem_map.1 hu
    exact hr t' h1 u' h2
  have h1 : ((pa X (a + b) (mulL p q lo n) : Nat) : Int) ≤ S2 (fun e => (X : Int) ^ (e - (a + b)).toNat) (abL p) (abL q) := by
    unfold mulL
    rw [pa_fromC]
    refine Int.le_trans (sumR_mono (g := fun e => mc (abL p) (abL q) e * (X : Int) ^ (e - (a + b)).toNat) (fun e => ?_) lo n) ?_
    · exact Int.mul_le_mul_of_nonneg_right (mc_absle p q e) (by rw [← Int.natCast_pow]; omega)
    · rw [sumR_S2]
      exact Int.le_of_eq (S2_congr fun t ht u hu => if_pos (hr2 t ht u hu))
  rw [S2_mul (g := fun e => (X : Int) ^ (e - a).toNat) (k := fun e => (X : Int) ^ (e - b).toNat) fun t ht u hu => ?_, ← pa_S, ← pa_S] at h1
  · rw [← Int.natCast_mul] at h1; omega
  · obtain ⟨t', h3, rfl⟩ := List.mem_map.1 ht
    obtain ⟨u', h4, rfl⟩ := List.mem_map.1 hu
    exact pow_split _ (ha t' h3) (hb u' h4)
theorem pv_mul {p q : List Tm} {lo : Int} {n : Nat} (hr : ∀ t ∈ p, ∀ u ∈ q, lo ≤ t.1 + u.1 ∧ t.1 + u.1 < lo + n) (x : Int) {a b : Int} (ha : ∀ t ∈ p, a ≤ t.1) (hb : ∀ u ∈ q, b ≤ u.1) : pv x (a + b) (mulL p q lo n) = pv x a p * pv x b q := by
  unfold pv
  rw [S_mulL hr]
  exact S2_mul fun t ht u hu => pow_split _ (ha t ht) (hb u hu)
theorem sgE_mul (x a b : Int) : sgE x (a + b) = sgE x a * sgE x b := by
  unfold sgE
  by_cases hx : x < 0
  · by_cases h1 : a % 2 = 0 <;> by_cases h2 : b % 2 = 0
    · rw [if_neg (by omega), if_neg (by omega), if_neg (by omega)]; rfl
    · rw [if_pos (by omega), if_neg (by omega), if_pos (by omega)]; rfl
    · rw [if_pos (by omega), if_pos (by omega), if_neg (by omega)]; rfl
    · rw [if_neg (by omega), if_pos (by omega), if_pos (by omega)]; rfl
  · rw [if_neg (by omega), if_neg (by omega), if_neg (by omega)]; rfl
theorem sv_mul {p q : List Tm} {lo : Int} {n : Nat} (hr : ∀ t ∈ p, ∀ u ∈ q, lo ≤ t.1 + u.1 ∧ t.1 + u.1 < lo + n) (x : Int) : sv x (mulL p q lo n) = sv x p * sv x q := by
  unfold sv
  rw [S_mulL hr]
  exact S2_mul fun t _ u _ => sgE_mul x t.1 u.1
theorem S_mA (g : Int → Int) (p q : List Tm) : S g (mA p q) = S g p + S g q := by
  have := S_mrg (f := fun a b => a + b) (x := 1) (y := 1) (fun a b => by omega) g p q
  unfold mA
  rw [this]; omega
end Go.Proofs.YtlnjddjobbhcaaaDoor
