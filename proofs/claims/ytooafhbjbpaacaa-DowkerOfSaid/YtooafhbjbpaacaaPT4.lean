/- Each even set of edges bounds: plain. -/
import Derived.Test.YtooafhbjbpaacaaPT3
import Derived.Test.YtooafhbjbpaacaaI1
namespace Go.Proofs.Ytooafhbjbpaacaa
open Go.Ab
set_option linter.unusedVariables false
variable {xs ms : List Int} {l : Int}

theorem cls_one {n : Nat} {L : Nat → Nat} (P : Ptn n L) {k : Nat} (hk : k < n) (h : ∀ c, c < n → L c = L k) : cls n L = 1 := by
  unfold cls
  rw [← countP_out (l := List.range n) (p := fun c => L c == c) (x := L k) List.nodup_range (List.mem_range.2 (P.lt k hk)) (by simp [P.id k hk])]
  have : (List.range n).countP (fun c => (L c == c) && !(c == L k)) = 0 := by
    rw [List.countP_eq_zero]
    intro c hc
    have := h c (List.mem_range.1 hc)
    simp only [Bool.and_eq_true, beq_iff_eq, Bool.not_eq_true', beq_eq_false_iff_ne, ne_eq, not_and, Decidable.not_not]
    intro e
    rw [← e]; exact this
  rw [this]
theorem smB_congr {f g : Nat → Bool} : ∀ {A : List Nat}, (∀ h ∈ A, f h = g h) → smB f A = smB g A
  | [], _ => rfl
  | a :: A, h => by rw [smB, smB, h a (.head _), smB_congr fun b hb => h b (.tail _ hb)]
/-- Even round each crossing. -/
def EvC (y : Nat → Bool) (n : Nat) : Prop := ∀ c, c < n → xor (y (4 * c)) (xor (y (4 * c + 1)) (xor (y (4 * c + 2)) (y (4 * c + 3)))) = false
theorem ev_sum {y S : Nat → Bool} : ∀ {n}, EvC y n → smB (fun h => y h && S (h / 4)) (List.range (4 * n)) = false
  | 0, _ => rfl
  | n + 1, he => by
    rw [range4, smB_app, ev_sum (n := n) fun c hc => he c (by omega)]
    have := he n (by omega)
    simp only [smB, show 4 * n / 4 = n by omega, show (4 * n + 1) / 4 = n by omega, show (4 * n + 2) / 4 = n by omega, show (4 * n + 3) / 4 = n by omega]
    revert this
    cases S n <;> cases y (4 * n) <;> cases y (4 * n + 1) <;> cases y (4 * n + 2) <;> cases y (4 * n + 3) <;> simp
theorem deg_none (hF : Front xs ms l) {y : Nat → Bool} (hy : ∀ h, h < ms.length → y (mateN ms h) = y h) (he : EvC y xs.length) (S : Nat → Bool) : smB (dgB (fun h => h / 4) (fun h => mateN ms h / 4) y S) (outs xs xs.length) = false := by
  have h1 := smB_edges hF fun h => y h && S (h / 4)
  rw [hF.four, ev_sum he] at h1
  rw [h1]
  refine smB_congr fun h hh => ?_
  have hh := ((outs_mem hF).1 hh).1
  show xor _ _ = xor _ (y (mateN ms h) && _)
  rw [hy h hh]
theorem ends_lt (hF : Front xs ms l) : ∀ h ∈ outs xs xs.length, h / 4 < xs.length ∧ mateN ms h / 4 < xs.length := fun h hh => by
  have h1 := ((outs_mem hF).1 hh).1
  have h2 := (hF.mateg h1).2.1
  have := hF.four
  exact ⟨by omega, by omega⟩
/-- Nothing on the edges off the tree: nothing at all. -/
theorem leaf_all (hF : Front xs ms l) {y : Nat → Bool} (hy : ∀ h, h < ms.length → y (mateN ms h) = y h) (he : EvC y xs.length) (hC : ∀ h ∈ krC (fun h => h / 4) (fun h => mateN ms h / 4) (outs xs xs.length), y h = false) : ∀ h, h < ms.length → y h = false := by
  have h1 := leaf (n := xs.length) (ends_lt hF) hC (deg_none hF hy he)
  intro h hh
  obtain ⟨_, b, c, _, e⟩ := hF.mateg hh
  cases ho : outB xs h with
  | true => exact h1 h ((outs_mem hF).2 ⟨hh, ho⟩)
  | false =>
    rw [← hy h hh]
    refine h1 _ ((outs_mem hF).2 ⟨b, ?_⟩)
    rw [ho] at e
    cases h2 : outB xs (mateN ms h) with
    | true => rfl
    | false => exact absurd h2.symm e
theorem krC_sub {p q : Nat → Nat} : ∀ {E : List Nat}, ∀ h ∈ krC p q E, h ∈ E
  | [], h, hh => by simp [krC] at hh
  | g :: E, h, hh => by
    unfold krC at hh
    split at hh
    · rcases List.mem_cons.1 hh with rfl | hh
      · exact .head _
      · exact .tail _ (krC_sub h hh)
    · exact .tail _ (krC_sub h hh)
/-- The tree has an edge less than there are crossings. -/
theorem tree_len (hF : Front xs ms l) (h1n : 1 ≤ xs.length) (hC : Conn xs.length ms) : (krC (fun h => h / 4) (fun h => mateN ms h / 4) (outs xs xs.length)).length = xs.length + 1 := by
  have P := kr_ptn (n := xs.length) (ends_lt hF)
  have hj := kr_join (n := xs.length) (ends_lt hF)
  have hcl := kr_cls (n := xs.length) (ends_lt hF)
  have hln := kr_len (p := fun h => h / 4) (q := fun h => mateN ms h / 4) (E := outs xs xs.length)
  rw [outs_len hF.sgn (Nat.le_refl _)] at hln
  have h4 := hF.four
  have hall := hC (fun c => krL (fun h => h / 4) (fun h => mateN ms h / 4) (outs xs xs.length) c = krL (fun h => h / 4) (fun h => mateN ms h / 4) (outs xs xs.length) 0) rfl fun h hh hk => by
    have hh' : h < ms.length := by omega
    obtain ⟨_, b, c, _, e⟩ := hF.mateg hh'
    cases ho : outB xs h with
    | true => rw [← hk]; exact (hj h ((outs_mem hF).2 ⟨hh', ho⟩)).symm
    | false =>
      have h2 : outB xs (mateN ms h) = true := by
        rw [ho] at e
        cases h2 : outB xs (mateN ms h) with
        | true => rfl
        | false => exact absurd h2.symm e
      have := hj _ ((outs_mem hF).2 ⟨b, h2⟩)
      simp only [c] at this
      rw [← hk]; exact this
  have := cls_one P (k := 0) (by omega) hall
  omega
end Go.Proofs.Ytooafhbjbpaacaa
