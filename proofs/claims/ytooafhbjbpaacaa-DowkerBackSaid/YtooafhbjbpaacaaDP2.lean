/- The signs that are tried, in order: plain. -/
import Derived.Test.YtooafhbjbpaacaaDP1
namespace Go.Proofs.Ytooafhbjbpaacaa
open Go.Ab
set_option linter.unusedVariables false

/-- The lists of signs that begin with p, the first one first. -/
def cands : List Int → Nat → List (List Int)
  | p, 0 => [p]
  | p, k + 1 => cands (p ++ [1]) k ++ cands (p ++ [-1]) k
theorem cands_mem : ∀ {k : Nat} {p q : List Int}, q ∈ cands p k → q.length = p.length + k ∧ (∃ r, q = p ++ r) ∧ ∀ x ∈ q, x ∈ p ∨ Sgn x
  | 0, p, q, h => by
    simp [cands] at h
    subst h
    exact ⟨rfl, ⟨[], by simp⟩, fun x hx => .inl hx⟩
  | k + 1, p, q, h => by
    simp only [cands, List.mem_append] at h
    have go : ∀ z, Sgn z → q ∈ cands (p ++ [z]) k → q.length = p.length + (k + 1) ∧ (∃ r, q = p ++ r) ∧ ∀ x ∈ q, x ∈ p ∨ Sgn x := fun z hz hq => by
      obtain ⟨h1, ⟨r, h2⟩, h3⟩ := cands_mem hq
      refine ⟨by rw [h1]; simp; omega, ⟨z :: r, by rw [h2]; simp⟩, fun x hx => ?_⟩
      rcases h3 x hx with h4 | h4
      · rcases List.mem_append.1 h4 with h5 | h5
        · exact .inl h5
        · simp at h5; subst h5; exact .inr hz
      · exact .inr h4
    rcases h with h | h
    · exact go 1 (.inl rfl) h
    · exact go (-1) (.inr rfl) h
theorem negL_app (a b : List Int) : negL (a ++ b) = negL a ++ negL b := by simp [negL]
theorem negL_neg (a : List Int) : negL (negL a) = a := by
  unfold negL
  rw [List.map_map]
  conv => rhs; rw [← List.map_id a]
  exact List.map_congr_left fun x _ => by simp
theorem cands_neg : ∀ {k : Nat} {p q : List Int}, q ∈ cands p k → negL q ∈ cands (negL p) k
  | 0, p, q, h => by
    simp [cands] at h ⊢
    rw [h]
  | k + 1, p, q, h => by
    simp only [cands, List.mem_append] at h ⊢
    rcases h with h | h
    · have := cands_neg h
      rw [negL_app] at this
      exact .inr this
    · have := cands_neg h
      rw [negL_app] at this
      exact .inl this
/-- q is the first of L that is so. -/
def FirstIs (P : List Int → Prop) (L : List (List Int)) (q : List Int) : Prop := ∃ A B, L = A ++ q :: B ∧ P q ∧ ∀ a ∈ A, ¬ P a
theorem FirstIs.left {P : List Int → Prop} {L M : List (List Int)} {q : List Int} (h : FirstIs P L q) : FirstIs P (L ++ M) q := by
  obtain ⟨A, B, rfl, h2, h3⟩ := h
  exact ⟨A, B ++ M, by simp, h2, h3⟩
theorem FirstIs.right {P : List Int → Prop} {L M : List (List Int)} {q : List Int} (hn : ∀ a ∈ L, ¬ P a) (h : FirstIs P M q) : FirstIs P (L ++ M) q := by
  obtain ⟨A, B, rfl, h2, h3⟩ := h
  exact ⟨L ++ A, B, by simp, h2, fun a ha => (List.mem_append.1 ha).elim (hn a) (h3 a)⟩
theorem FirstIs.mem {P : List Int → Prop} {L : List (List Int)} {q : List Int} (h : FirstIs P L q) : q ∈ L ∧ P q := by
  obtain ⟨A, B, rfl, h2, h3⟩ := h
  exact ⟨by simp, h2⟩
open Classical in
/-- Those that are so, one after the other. -/
noncomputable def oksD (P : List Int → Prop) (L : List (List Int)) : List (List Int) := L.filter fun q => decide (P q)
theorem FirstIs.oks {P : List Int → Prop} {L : List (List Int)} {q : List Int} (h : FirstIs P L q) : ∃ r, oksD P L = q :: r := by
  obtain ⟨A, B, rfl, h2, h3⟩ := h
  refine ⟨oksD P B, ?_⟩
  unfold oksD
  rw [List.filter_append, List.filter_eq_nil_iff.2 (fun a ha => by simpa using h3 a ha), List.filter_cons]
  simp [h2]
theorem oks_none {P : List Int → Prop} {L : List (List Int)} (h : ∀ a ∈ L, ¬ P a) : oksD P L = [] := by
  unfold oksD
  rw [List.filter_eq_nil_iff]
  intro a ha
  simpa using h a ha
/-- If what is so stays so when all signs change, the first ones begin with 1. -/
theorem first_one {P : List Int → Prop} {k : Nat} (hP : ∀ q, q.length = k + 1 → P q → P (negL q)) :
    (∀ q, FirstIs P (cands [1] k) q → FirstIs P (cands [] (k + 1)) q) ∧ ((∀ q ∈ cands [1] k, ¬ P q) → ∀ q ∈ cands [] (k + 1), ¬ P q) := by
  refine ⟨fun q h => h.left, fun h q hq hp => ?_⟩
  simp only [cands, List.nil_append, List.mem_append] at hq
  rcases hq with hq | hq
  · exact h q hq hp
  · have h1 := cands_neg hq
    have h2 := (cands_mem hq).1
    exact h (negL q) (by simpa [negL] using h1) (hP q (by simp at h2; omega) hp)

/-! ### The bits of a number -/
def sgB (n b i : Nat) : Int := if b / 2 ^ (n - 1 - i) % 2 = 0 then 1 else -1
def sgL (n b : Nat) : List Int := (List.range n).map (sgB n b)
theorem sgL_lo {k b : Nat} (hb : b < 2 ^ k) : sgL (k + 1) b = 1 :: sgL k b := by
  unfold sgL
  rw [List.range_succ_eq_map, List.map_cons, List.map_map]
  congr 1
  · unfold sgB
    rw [show k + 1 - 1 - 0 = k by omega, Nat.div_eq_of_lt hb]; rfl
  · refine List.map_congr_left fun i hi => ?_
    unfold sgB
    simp only [Function.comp, Nat.succ_eq_add_one]
    rw [show k + 1 - 1 - (i + 1) = k - 1 - i by omega]
theorem sgL_hi {k b : Nat} (hb : b < 2 ^ k) : sgL (k + 1) (2 ^ k + b) = -1 :: sgL k b := by
  unfold sgL
  rw [List.range_succ_eq_map, List.map_cons, List.map_map]
  congr 1
  · unfold sgB
    have : (2 ^ k + b) / 2 ^ k = 1 := by
      rw [Nat.add_div_left _ (Nat.two_pow_pos k), Nat.div_eq_of_lt hb]
    rw [show k + 1 - 1 - 0 = k by omega, this]; rfl
  · refine List.map_congr_left fun i hi => ?_
    simp only [List.mem_range] at hi
    unfold sgB
    simp only [Function.comp, Nat.succ_eq_add_one]
    rw [show k + 1 - 1 - (i + 1) = k - 1 - i by omega]
    have h1 : 2 ^ k = 2 ^ (k - 1 - i) * (2 * 2 ^ i) := by
      rw [← Nat.pow_succ', ← Nat.pow_add]
      congr 1; omega
    have h2 : (2 ^ k + b) / 2 ^ (k - 1 - i) = 2 * 2 ^ i + b / 2 ^ (k - 1 - i) := by
      rw [h1, Nat.mul_add_div (Nat.two_pow_pos _)]
    rw [h2]
    have h3 : (2 * 2 ^ i + b / 2 ^ (k - 1 - i)) % 2 = b / 2 ^ (k - 1 - i) % 2 := by omega
    rw [h3]
theorem cands_bits : ∀ (k : Nat) (p : List Int), cands p k = (List.range (2 ^ k)).map fun b => p ++ sgL k b
  | 0, p => by simp [cands, sgL]
  | k + 1, p => by
    rw [cands, cands_bits k, cands_bits k, Nat.pow_succ, Nat.mul_two, List.range_add, List.map_append, List.map_map]
    congr 1
    · refine List.map_congr_left fun b hb => ?_
      rw [sgL_lo (List.mem_range.1 hb)]; simp
    · refine List.map_congr_left fun b hb => ?_
      simp only [Function.comp]
      rw [sgL_hi (List.mem_range.1 hb)]; simp
end Go.Proofs.Ytooafhbjbpaacaa
