/- The one strand of the diagram of a code: plain. -/
import Derived.Test.YtooafhbjbpaacaaDP3
import Derived.Test.YtooafhbjbpaacaaS4
namespace Go.Proofs.Ytooafhbjbpaacaa
open Go.Ab
set_option linter.unusedVariables false
variable {vs xs : List Int}

theorem psi_o (hg : Good vs) (hs : ∀ i, i < vs.length → Sgn (xs.getD i 0)) {k : Nat} (hk : k < 2 * vs.length) : psi (mtD vs xs) (oN vs xs k) = oN vs xs ((k + 1) % (2 * vs.length)) := by
  have h1 := (mate_o hg hs hk).1
  have h2 : (k + 1) % (2 * vs.length) < 2 * vs.length := Nat.mod_lt _ (by omega)
  unfold psi
  unfold mateN at h1
  rw [h1]
  exact (oN_iN hg h2).2
theorem it_o (hg : Good vs) (hs : ∀ i, i < vs.length → Sgn (xs.getD i 0)) {k : Nat} (hk : k < 2 * vs.length) : ∀ j, it (psi (mtD vs xs)) j (oN vs xs k) = oN vs xs ((k + j) % (2 * vs.length))
  | 0 => by rw [Nat.add_zero, Nat.mod_eq_of_lt hk]; rfl
  | j + 1 => by
    show psi _ (it _ j _) = _
    rw [it_o hg hs hk j, psi_o hg hs (Nat.mod_lt _ (by omega))]
    congr 1
    rw [Nat.mod_add_mod, Nat.add_assoc]
theorem one_mem {l : List Nat} {a : Nat} (hn : l.Nodup) (hm : ∀ x, x ∈ l ↔ x = a) : l = [a] := by
  cases l with
  | nil => exact absurd ((hm a).2 rfl) (by simp)
  | cons x t =>
    obtain rfl := (hm x).1 (.head _)
    cases t with
    | nil => rfl
    | cons y t =>
      obtain rfl := (hm y).1 (.tail _ (.head _))
      simp at hn
/-- The strand that begins at passage k. -/
def strD (vs xs : List Int) (k : Nat) : List Nat := (List.range (2 * vs.length)).map fun j => oN vs xs ((k + j) % (2 * vs.length))
theorem strs_one (hg : Good vs) (hl : xs.length = vs.length) (hF : Front xs (mtD vs xs) 0) : ∃ k, k < 2 * vs.length ∧ strs xs (mtD vs xs) = [strD vs xs k] := by
  have hn := hg.1
  have hs : ∀ i, i < vs.length → Sgn (xs.getD i 0) := fun i hi => by
    refine hF.sgn _ ?_
    rw [List.getD_eq_getElem?_getD, List.getElem?_eq_getElem (by omega)]
    exact List.getElem_mem (by omega)
  have hi := psi_inj hF.mates hF.inv
  have hlt : ∀ h, h < (mtD vs xs).length → psi (mtD vs xs) h < (mtD vs xs).length := fun h hh => hF.mates.psi_lt hh
  have hml : (mtD vs xs).length = 4 * vs.length := by have := hF.four; omega
  have h0 : oN vs xs 0 < (mtD vs xs).length := by rw [hml]; exact (oN_lt hg (by omega)).1
  obtain ⟨t, j, h1, h2, h3⟩ := orb_least hi hlt (oN vs xs 0) h0
  obtain ⟨i, h4⟩ := orb_symm hi hlt h1 h3
  rw [it_o hg hs (by omega)] at h4
  have hk : (0 + i) % (2 * vs.length) < 2 * vs.length := Nat.mod_lt _ (by omega)
  generalize (0 + i) % (2 * vs.length) = k at *
  refine ⟨k, hk, ?_⟩
  have hst : starts xs (mtD vs xs) (mtD vs xs).length = [t] := by
    refine one_mem ?_ fun x => ?_
    · unfold starts
      exact List.Pairwise.filter _ (List.nodup_range)
    · rw [starts_mem]
      constructor
      · rintro ⟨a, b, c⟩
        obtain ⟨q, hq, e⟩ := half_of (xs := xs) hg hs (by rw [← hml]; exact a)
        rcases e with rfl | rfl
        · have e1 := c ((k + (2 * vs.length - q)) % (2 * vs.length))
          have e2 := h2 ((q + (2 * vs.length - k)) % (2 * vs.length))
          rw [← h4] at e2 ⊢
          rw [it_o hg hs hq] at e1
          rw [it_o hg hs hk] at e2
          have z1 : (q + (k + (2 * vs.length - q)) % (2 * vs.length)) % (2 * vs.length) = k := by
            rw [Nat.add_mod_mod, show q + (k + (2 * vs.length - q)) = k + 2 * vs.length by omega, Nat.add_mod_right, Nat.mod_eq_of_lt hk]
          have z2 : (k + (q + (2 * vs.length - k)) % (2 * vs.length)) % (2 * vs.length) = q := by
            rw [Nat.add_mod_mod, show k + (q + (2 * vs.length - k)) = q + 2 * vs.length by omega, Nat.add_mod_right, Nat.mod_eq_of_lt hq]
          rw [z1] at e1
          rw [z2] at e2
          omega
        · rw [(oN_out hg hs hq).2] at b
          cases b
      · rintro rfl
        exact ⟨h1, by rw [← h4]; exact (oN_out hg hs hk).1, h2⟩
  unfold strs
  rw [hst, List.map_singleton]
  congr 1
  refine Cyc.eq ⟨2 * vs.length - 1, ?_, ?_, fun j hj1 hj2 he => ?_⟩
  · unfold strD orbN
    rw [show 2 * vs.length - 1 + 1 = 2 * vs.length by omega]
    refine List.map_congr_left fun j _ => ?_
    rw [← h4, it_o hg hs hk]
  · rw [← h4, it_o hg hs hk]
    congr 1
    rw [show k + (2 * vs.length - 1 + 1) = k + 2 * vs.length by omega, Nat.add_mod_right, Nat.mod_eq_of_lt hk]
  · rw [← h4, it_o hg hs hk] at he
    have := oN_inj hg (Nat.mod_lt _ (by omega)) hk he
    by_cases hc : k + j < 2 * vs.length
    · rw [Nat.mod_eq_of_lt hc] at this; omega
    · rw [Nat.mod_eq_sub_mod (by omega), Nat.mod_eq_of_lt (by omega)] at this; omega
end Go.Proofs.Ytooafhbjbpaacaa
