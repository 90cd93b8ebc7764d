/- Products of Laurent polynomials: plain. -/
import Derived.Test.YtlnjddjobbhcaaaDoorLP1
namespace Go.Proofs.YtlnjddjobbhcaaaDoor
set_option linter.unusedVariables false

/-- The double sum of a product. -/
def S2 (f : Int → Int) (p q : List Tm) : Int := S (fun a => S (fun b => f (a + b)) q) p
/-- The coefficient of e in the product. -/
def mc (p q : List Tm) (e : Int) : Int := S2 (dl e) p q
theorem S2_comm (f : Int → Int) (p q : List Tm) : S2 f p q = S2 f q p := by
  unfold S2
  rw [S_swap]
  exact S_congr fun t _ => S_congr fun u _ => by rw [Int.add_comm]
theorem mc_comm (p q : List Tm) (e : Int) : mc p q e = mc q p e := S2_comm _ _ _
theorem mc_nil (q : List Tm) (e : Int) : mc [] q e = 0 := rfl
theorem mc_nilr (p : List Tm) (e : Int) : mc p [] e = 0 := by rw [mc_comm]; rfl
theorem mc_app (a b q : List Tm) (e : Int) : mc (a ++ b) q e = mc a q e + mc b q e := S_app _ _ _
theorem cf_shift (q : List Tm) (a e : Int) : S (fun b => dl e (a + b)) q = cf q (e - a) := by
  unfold cf
  refine S_congr fun t _ => ?_
  by_cases h : a + t.1 = e
  · rw [h, dl_self, show t.1 = e - a by omega, dl_self]
  · rw [dl_ne h, dl_ne (by omega)]
theorem mc_S (p q : List Tm) (e : Int) : mc p q e = S (fun a => cf q (e - a)) p := S_congr fun t _ => cf_shift q t.1 e
theorem mc_one (t : Tm) (q : List Tm) (e : Int) : mc [t] q e = t.2 * cf q (e - t.1) := by
  rw [mc_S]; simp [S]
theorem mc_cons (t : Tm) (p q : List Tm) (e : Int) : mc (t :: p) q e = t.2 * cf q (e - t.1) + mc p q e := by
  rw [mc_S, mc_S]; rfl
/-- The product tells its coefficients, and these tell it. -/
theorem sumR_S2 (g : Int → Int) (p q : List Tm) {lo : Int} : ∀ (n : Nat), sumR (fun x => mc p q x * g x) lo n = S2 (fun e => if lo ≤ e ∧ e < lo + n then g e else 0) p q
  | 0 => by
    show 0 = _
    unfold S2
    rw [S_congr (g := fun _ => 0) fun t _ => ?_, S_zero]
    rw [S_congr (g := fun _ => 0) fun u _ => ?_, S_zero]
    dsimp only
    rw [if_neg (by omega)]
  | n + 1 => by
    simp only [sumR]
    rw [sumR_S2 g p q n]
    unfold mc S2
    rw [Int.mul_comm, ← S_mul, ← S_add]
    refine S_congr fun t _ => ?_
    rw [← S_mul, ← S_add]
    refine S_congr fun u _ => ?_
    dsimp only
    by_cases h : t.1 + u.1 = lo + n
    · rw [h, dl_self, if_neg (by omega), if_pos (by omega)]; omega
    · rw [dl_ne h]
      by_cases h2 : lo ≤ t.1 + u.1 ∧ t.1 + u.1 < lo + n
      · rw [if_pos h2, if_pos (by omega)]; omega
      · rw [if_neg h2, if_neg (by omega)]; omega
theorem S2_congr {f g : Int → Int} {p q : List Tm} (h : ∀ t ∈ p, ∀ u ∈ q, f (t.1 + u.1) = g (t.1 + u.1)) : S2 f p q = S2 g p q :=
  S_congr fun t ht => S_congr fun u hu => h t ht u hu
theorem mc_none {p q : List Tm} {e : Int} (h : ∀ t ∈ p, ∀ u ∈ q, t.1 + u.1 ≠ e) : mc p q e = 0 := by
  unfold mc
  rw [S2_congr (g := fun _ => 0) fun t ht u hu => dl_ne (h t ht u hu)]
  unfold S2
  rw [S_congr (g := fun _ => 0) fun t _ => S_zero q, S_zero]
/-- The product, from lo on, n exponents. -/
def mulL (p q : List Tm) (lo : Int) (n : Nat) : List Tm := fromC (mc p q) lo n
theorem S_mulL {p q : List Tm} {lo : Int} {n : Nat} (h : ∀ t ∈ p, ∀ u ∈ q, lo ≤ t.1 + u.1 ∧ t.1 + u.1 < lo + n) (g : Int → Int) : S g (mulL p q lo n) = S2 g p q := by
  unfold mulL
  rw [S_fromC, sumR_S2]
  exact S2_congr fun t ht u hu => if_pos (h t ht u hu)
theorem cf_mulL {p q : List Tm} {lo : Int} {n : Nat} (h : ∀ t ∈ p, ∀ u ∈ q, lo ≤ t.1 + u.1 ∧ t.1 + u.1 < lo + n) (e : Int) : cf (mulL p q lo n) e = mc p q e := S_mulL h _
/-- The lowest, and the highest exponent. -/
def lo0 (p : List Tm) : Int := match p with | [] => 0 | t :: _ => t.1
def hi0 (p : List Tm) : Int := match p.getLast? with | none => 0 | some t => t.1
theorem lo0_le {p : List Tm} (h : Can p) : ∀ t ∈ p, lo0 p ≤ t.1 := by
  cases p with
  | nil => simp
  | cons u r =>
    intro t ht
    rcases List.mem_cons.1 ht with rfl | ht
    · exact Int.le_refl _
    · exact Int.le_of_lt (h.lt t ht)
theorem hi0_cons {t u : Tm} {r : List Tm} : hi0 (t :: u :: r) = hi0 (u :: r) := by simp [hi0, List.getLast?_cons_cons]
theorem hi0_ge : ∀ {p : List Tm}, Can p → ∀ t ∈ p, t.1 ≤ hi0 p
  | [], _, t, ht => by simp at ht
  | [v], _, t, ht => by simp at ht; subst ht; simp [hi0]
  | v :: u :: r, h, t, ht => by
    rw [hi0_cons]
    have ih := hi0_ge h.tail
    rcases List.mem_cons.1 ht with rfl | ht
    · have := h.lt u (.head _)
      have := ih u (.head _)
      omega
    · exact ih t ht
theorem hi0_mem : ∀ {p : List Tm}, p ≠ [] → ∃ t ∈ p, t.1 = hi0 p
  | [], h => absurd rfl h
  | [v], _ => ⟨v, by simp, by simp [hi0]⟩
  | v :: u :: r, _ => by
    obtain ⟨t, h1, h2⟩ := hi0_mem (p := u :: r) (by simp)
    exact ⟨t, .tail _ h1, by rw [hi0_cons]; exact h2⟩
theorem cf_mem {p : List Tm} (h : Can p) : ∀ {t : Tm}, t ∈ p → cf p t.1 = t.2 := by
  induction p with
  | nil => intro t ht; simp at ht
  | cons u r ih =>
    intro t ht
    rcases List.mem_cons.1 ht with rfl | ht
    · exact h.cf_head
    · rw [cf_cons, dl_ne (by have := h.lt t ht; omega), ih h.tail ht]; omega
theorem cf_ne {p : List Tm} {e : Int} (h : cf p e ≠ 0) : ∃ t ∈ p, t.1 = e := by
  refine Classical.byContradiction fun hn => h (cf_none fun t ht he => hn ⟨t, ht, he⟩)
theorem mc_ne {p q : List Tm} {e : Int} (h : mc p q e ≠ 0) : ∃ t ∈ p, ∃ u ∈ q, t.1 + u.1 = e := by
  refine Classical.byContradiction fun hn => h (mc_none fun t ht u hu he => hn ⟨t, ht, u, hu, he⟩)
/-- The products of the extreme terms do not cancel. -/
theorem S_only {f : Int → Int} {p : List Tm} {e : Int} (h : Can p) (h0 : ∀ t ∈ p, t.1 ≠ e → f t.1 = 0) : S f p = cf p e * f e := by
  have h1 : S f p = S (fun x => f e * dl e x) p := S_congr fun t ht => by
    by_cases he : t.1 = e
    · rw [he, dl_self]; omega
    · rw [h0 t ht he, dl_ne he]; omega
  rw [h1, S_mul, Int.mul_comm]; rfl
theorem mc_low {p q : List Tm} (hp : Can p) (hq : Can q) : mc p q (lo0 p + lo0 q) = cf p (lo0 p) * cf q (lo0 q) := by
  rw [mc_S, S_only hp (e := lo0 p) fun t ht hne => ?_]
  · rw [show lo0 p + lo0 q - lo0 p = lo0 q by omega]
  · have := lo0_le hp t ht
    exact cf_none fun u hu => by have := lo0_le hq u hu; omega
theorem mc_high {p q : List Tm} (hp : Can p) (hq : Can q) : mc p q (hi0 p + hi0 q) = cf p (hi0 p) * cf q (hi0 q) := by
  rw [mc_S, S_only hp (e := hi0 p) fun t ht hne => ?_]
  · rw [show hi0 p + hi0 q - hi0 p = hi0 q by omega]
  · have := hi0_ge hp t ht
    exact cf_none fun u hu => by have := hi0_ge hq u hu; omega
theorem cf_lo {p : List Tm} (h : Can p) (h0 : p ≠ []) : cf p (lo0 p) ≠ 0 := by
  cases p with
  | nil => exact absurd rfl h0
  | cons t r =>
    show cf (t :: r) t.1 ≠ 0
    rw [h.cf_head]; exact h.nz t (.head _)
theorem cf_hi {p : List Tm} (h : Can p) (h0 : p ≠ []) : cf p (hi0 p) ≠ 0 := by
  obtain ⟨t, h1, h2⟩ := hi0_mem h0
  rw [← h2, cf_mem h h1]; exact h.nz t h1
/-! ### Bounds -/
theorem cf_abs {p : List Tm} (h : Can p) {M : Nat} (hb : ∀ t ∈ p, t.2.natAbs ≤ M) (e : Int) : (cf p e).natAbs ≤ M := by
  by_cases h0 : cf p e = 0
  · rw [h0]; exact Nat.zero_le _
  · obtain ⟨t, h1, h2⟩ := cf_ne h0
    rw [← h2, cf_mem h h1]; exact hb t h1
theorem mc_abs {q : List Tm} (hq : Can q) {M N : Nat} (hN : ∀ t ∈ q, t.2.natAbs ≤ N) (e : Int) : ∀ {p : List Tm}, (∀ t ∈ p, t.2.natAbs ≤ M) → (mc p q e).natAbs ≤ p.length * (M * N)
  | [], _ => by simp [mc_nil]
  | t :: p, h => by
    rw [mc_cons]
    have ih := mc_abs hq hN e (p := p) fun u hu => h u (.tail _ hu)
    have h1 := Int.natAbs_add_le (t.2 * cf q (e - t.1)) (mc p q e)
    rw [Int.natAbs_mul] at h1
    have h2 := Nat.mul_le_mul (h t (.head _)) (cf_abs hq hN (e - t.1))
    rw [List.length_cons, Nat.succ_mul]
    omega
end Go.Proofs.YtlnjddjobbhcaaaDoor
