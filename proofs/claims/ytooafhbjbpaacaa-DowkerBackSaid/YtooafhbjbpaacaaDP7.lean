/- The one strand of the diagram of a code: plain. -/
import Derived.Test.YtooafhbjbpaacaaDP3
import Derived.Test.YtooafhbjbpaacaaS4
namespace Go.Proofs.Ytooafhbjbpaacaa
open Go.Ab
set_option linter.unusedVariables false
variable {vs xs : List Int}

theorem psi_o (hg : Good vs) (hs : ∀ i, i < vs.length → Sgn (xs.getD i 0)) {k : Nat} (hk : k < 2 * vs.length) : psi (mtD vs xs) (oN vs xs k) = oN vs xs ((k + 1) % (2 * vs.length)) := by
  have h1 := (mate_o hg hs hk).1
  have h2 : (k + 1) % (2 * vs.length) < 2 * vs.length := Nat.mod_lt _ (by omega)
  unfold psi
  unfold mateN at h1
  rw [h1]
  exact (oN_iN hg h2).2
theorem it_o (hg : Good vs) (hs : ∀ i, i < vs.length → Sgn (xs.getD i 0)) {k : Nat} (hk : k < 2 * vs.length) : ∀ j, it (psi (mtD vs xs)) j (oN vs xs k) = oN vs xs ((k + j) % (2 * vs.length))
  | 0 => by rw [Nat.add_zero, Nat.mod_eq_of_lt hk]; rfl
  | j + 1 => by
    show psi _ (it _ j _) = _
    rw [it_o hg hs hk j, psi_o hg hs (Nat.mod_lt _ (by omega))]
    congr 1
    rw [Nat.mod_add_mod, Nat.add_assoc]
theorem one_mem {l : List Nat} {a : Nat} (hn : l.Nodup) (hm : ∀ x, x ∈ l ↔ x = a) : l = [a] := by
  cases l with
  | nil => exact absurd ((hm a).2 rfl) (by simp)
  | cons x t =>
    obtain rfl := (hm x).1 (.head _)
    cases t with
    | nil => rfl
    | cons y t =>
      obtain rfl := (hm y).1 (.tail _ (.head _))
      simp at hn
/-- The strand that begins at passage k. -/
def strD (vs xs : List Int) (k : Nat) : List Nat := (List.range (2 * vs.length)).map fun j => oN vs xs ((k + j) % (2 * vs.length))
theorem strs_one (hg : Good vs) (hl : xs.length = vs.length) (hF : Front xs (mtD vs xs) 0) : ∃ k, k < 2 * vs.length ∧ strs xs (mtD vs xs) = [strD vs xs k] := by
  have hn := hg.1
  have hs : ∀ i, i < vs.length → Sgn (xs.getD i 0) := fun i hi => by
    refine hF.sgn _ ?_
    rw [List.getD_eq_getElem?_getD, List.getElem?_eq_getElem (by omega)]
    exact List.getElem_mem (by omega)
  have hi := psi_inj hF.mates hF.inv
  have hlt : ∀ h, h < (mtD vs xs).length → psi (mtD vs xs) h < (mtD vs xs).length := fun h hh => hF.mates.psi_lt hh
  have hml : (mtD vs xs).length = 4 * vs.length := by have := hF.four; omega
  have h0 : oN vs xs 0 < (mtD vs xs).length := by rw [hml]; exact (oN_lt hg (by omega)).1
  obtain ⟨t, j, h1, h2, h3⟩ := orb_least hi hlt (oN vs xs 0) h0
  obtain ⟨i, h4⟩ := orb_symm hi hlt h1 h3
  rw [it_o hg hs (by omega)] at h4
  have hk : (0 + i) % (2 * vs.length) < 2 * vs.length := Nat.mod_lt _ (by omega)
  generalize (0 + i) % (2 * vs.length) = k at *
  refine ⟨k, hk, ?_⟩
  have hst : starts xs (mtD vs xs) (mtD vs xs).length = [t] := by
    refine one_mem ?_ fun x => ?_
    · unfold starts
      exact List.Pairwise.filter _ (List.nodup_range)
    · rw [starts_mem]
      constructor
      · rintro ⟨a, b, c⟩
        obtain ⟨q, hq, e⟩ := half_of (xs := xs) hg hs (by rw [← hml]; exact a)
        rcases e with rfl | rfl
        · have e1 := c ((k + (2 * vs.length - q)) % (2 * vs.length))
          have e2 := h2 ((q + (2 * vs.length - k)) % (2 * vs.length))
          rw [← h4] at e2 ⊢
          rw [it_o hg hs hq] at e1
          rw [it_o hg hs hk] at e2
          have z1 : (q + (k + (2 * vs.length - q)) % (2 * vs.length)) % (2 * vs.length) = k := by
            rw [Nat.add_mod_mod, show q + (k + (2 * vs.length - q)) = k + 2 * vs.length by omega, Nat.add_mod_right, Nat.mod_eq_of_lt hk]
          have z2 : (k + (q + (2 * vs.length - k)) % (2 * vs.length)) % (2 * vs.length) = q := by
            rw [Nat.add_mod_mod, show k + (q + (2 * vs.length - k)) = q + 2 * vs.length by omega, Nat.add_mod_right, Nat.mod_eq_of_lt hq]
          rw [z1] at e1
          rw [z2] at e2
          omega
        · rw [(oN_out hg hs hq).2] at b
          cases b
      · rintro rfl
        exact ⟨h1, by rw [← h4]; exact (oN_out hg hs hk).1, h2⟩
  unfold strs
  rw [hst, List.map_singleton]
  congr 1
  refine Cyc.eq ⟨2 * vs.length - 1, ?_, ?_, fun j hj1 hj2 he => ?_⟩
  · unfold strD orbN
    rw [show 2 * vs.length - 1 + 1 = 2 * vs.length by omega]
    refine List.map_congr_left fun j _ => ?_
    rw [← h4, it_o hg hs hk]
  · rw [← h4, it_o hg hs hk]
    congr 1
    rw [show k + (2 * vs.length - 1 + 1) = k + 2 * vs.length by omega, Nat.add_mod_right, Nat.mod_eq_of_lt hk]
  · rw [← h4, it_o hg hs hk] at he
    have := oN_inj hg (Nat.mod_lt _ (by omega)) hk he
    by_cases hc : k + j < 2 * vs.length
    · rw [Nat.mod_eq_of_lt hc] at this; omega
    · rw [Nat.mod_eq_sub_mod (by omega), Nat.mod_eq_of_lt (by omega)] at this; omega
end Go.Proofs.Ytooafhbjbpaacaa


/- The code of the diagram of a code: plain. -/
namespace Go.Proofs.Ytooafhbjbpaacaa
open Go.Ab
set_option linter.unusedVariables false
variable {vs xs : List Int}

theorem o_un (hg : Good vs) {i : Nat} (hi : i < vs.length) : oN vs xs (unD (vs.getD i 0) i) / 4 = i ∧ oN vs xs (ovD (vs.getD i 0) i) / 4 = i := by
  obtain ⟨h1, h2⟩ := outD_at (xs := xs) hg (Nat.le_refl _) i hi
  unfold oN
  rw [h1, h2]
  refine ⟨by omega, ?_⟩
  unfold ovH
  split <;> omega
theorem o_div (hg : Good vs) {k : Nat} (hk : k < 2 * vs.length) : ∃ i, i < vs.length ∧ oN vs xs k / 4 = i ∧ (k = unD (vs.getD i 0) i ∨ k = ovD (vs.getD i 0) i) := by
  obtain ⟨i, hi, h⟩ := pass_of hg hk
  obtain ⟨a, b⟩ := o_un (xs := xs) hg hi
  rcases h with rfl | rfl
  · exact ⟨i, hi, b, .inr rfl⟩
  · exact ⟨i, hi, a, .inl rfl⟩
theorem par_v (hg : Good vs) {i : Nat} (hi : i < vs.length) : unD (vs.getD i 0) i % 2 ≠ ovD (vs.getD i 0) i % 2 := by
  obtain ⟨h1, h2, h3⟩ := good_v hg hi
  unfold unD ovD
  by_cases h : vs.getD i 0 < 0
  · rw [if_pos h, if_pos h]; omega
  · rw [if_neg h, if_neg h]; omega
/-- The two passages of a crossing: one even, one odd. -/
theorem par_o (hg : Good vs) {j k : Nat} (hj : j < 2 * vs.length) (hk : k < 2 * vs.length) (h : oN vs xs j / 4 = oN vs xs k / 4) (hp : j % 2 = k % 2) : j = k := by
  obtain ⟨i, hi, a, b⟩ := o_div (xs := xs) hg hj
  obtain ⟨i', hi', a', b'⟩ := o_div (xs := xs) hg hk
  obtain rfl : i = i' := by omega
  have := par_v hg hi
  rcases b with rfl | rfl <;> rcases b' with rfl | rfl
  · rfl
  · exact absurd hp this
  · exact absurd hp.symm this
  · rfl
theorem part_o (hg : Good vs) {k : Nat} (hk : k < 2 * vs.length) : ∃ k', k' < 2 * vs.length ∧ oN vs xs k' / 4 = oN vs xs k / 4 ∧ k' % 2 ≠ k % 2 := by
  obtain ⟨i, hi, a, b⟩ := o_div (xs := xs) hg hk
  obtain ⟨c, d⟩ := o_un (xs := xs) hg hi
  have hp := par_v hg hi
  obtain ⟨l1, l2, _⟩ := ov_lt hg hi
  rcases b with rfl | rfl
  · exact ⟨_, l1, by rw [d, a], fun h => hp h.symm⟩
  · exact ⟨_, l2, by rw [c, a], hp⟩

/-- Passages of a strand of n crossings: S j is the half through which passage j goes out. -/
structure Str (n : Nat) (S : Nat → Nat) : Prop where
  lt : ∀ j, j < 2 * n → S j / 4 < n
  par : ∀ j k, j < 2 * n → k < 2 * n → S j / 4 = S k / 4 → j % 2 = k % 2 → j = k
  part : ∀ k, k < 2 * n → ∃ k', k' < 2 * n ∧ S k' / 4 = S k / 4 ∧ k' % 2 ≠ k % 2
theorem mod_par {n k j : Nat} (hk : k < 2 * n) (hj : j < 2 * n) : (k + j) % (2 * n) % 2 = (k + j) % 2 := by
  by_cases h : k + j < 2 * n
  · rw [Nat.mod_eq_of_lt h]
  · rw [Nat.mod_eq_sub_mod (a := k + j) (b := 2 * n) (by omega), Nat.mod_eq_of_lt (a := k + j - 2 * n) (b := 2 * n) (by omega)]; omega
theorem str_of (hg : Good vs) {k : Nat} (hk : k < 2 * vs.length) : Str vs.length (fun j => oN vs xs ((k + j) % (2 * vs.length))) where
  lt := fun j hj => by
    have := (oN_lt (xs := xs) hg (k := (k + j) % (2 * vs.length)) (Nat.mod_lt _ (by omega))).1
    show oN vs xs _ / 4 < _
    omega
  par := fun i j hi hj h hp => by
    have := par_o hg (Nat.mod_lt _ (by omega)) (Nat.mod_lt _ (by omega)) h (by rw [mod_par hk hi, mod_par hk hj]; omega)
    by_cases h1 : k + i < 2 * vs.length <;> by_cases h2 : k + j < 2 * vs.length
    · rw [Nat.mod_eq_of_lt h1, Nat.mod_eq_of_lt h2] at this; omega
    · rw [Nat.mod_eq_of_lt h1, Nat.mod_eq_sub_mod (by omega), Nat.mod_eq_of_lt (by omega)] at this; omega
    · rw [Nat.mod_eq_of_lt h2, Nat.mod_eq_sub_mod (by omega), Nat.mod_eq_of_lt (by omega)] at this; omega
    · rw [Nat.mod_eq_sub_mod (by omega), Nat.mod_eq_of_lt (by omega), Nat.mod_eq_sub_mod (a := k + j) (by omega), Nat.mod_eq_of_lt (a := k + j - 2 * vs.length) (by omega)] at this; omega
  part := fun j hj => by
    obtain ⟨q, hq, e, hp⟩ := part_o (xs := xs) hg (k := (k + j) % (2 * vs.length)) (Nat.mod_lt _ (by omega))
    have z1 : (k + (q + (2 * vs.length - k)) % (2 * vs.length)) % (2 * vs.length) = q := by
      rw [Nat.add_mod_mod, show k + (q + (2 * vs.length - k)) = q + 2 * vs.length by omega, Nat.add_mod_right, Nat.mod_eq_of_lt hq]
    have hl : (q + (2 * vs.length - k)) % (2 * vs.length) < 2 * vs.length := Nat.mod_lt _ (by omega)
    refine ⟨_, hl, by show oN vs xs _ / 4 = _; rw [z1]; exact e, ?_⟩
    rw [mod_par hk hj] at hp
    have z2 := mod_par hk hl
    rw [z1] at z2
    omega

/-! ### The code of a strand -/
/-- The even passages of the crossings, after j passages. -/
def evD (n : Nat) (S : Nat → Nat) : Nat → List Int
  | 0 => List.replicate n 0
  | j + 1 => if (j + 1) % 2 = 0 then (evD n S j).set (S j / 4) (if S j % 2 = 1 then -((j : Int) + 1) else (j : Int) + 1) else evD n S j
theorem evD_len (n : Nat) (S : Nat → Nat) : ∀ j, (evD n S j).length = n
  | 0 => by simp [evD]
  | j + 1 => by
    unfold evD
    split
    · rw [List.length_set, evD_len n S j]
    · exact evD_len n S j
theorem evD_at {n : Nat} {S : Nat → Nat} (s : Str n S) {k : Nat} (hk : k % 2 = 1) : ∀ {j}, j ≤ 2 * n → k < j → (evD n S j).getD (S k / 4) 0 = if S k % 2 = 1 then -((k : Int) + 1) else (k : Int) + 1
  | 0, _, h => absurd h (Nat.not_lt_zero _)
  | j + 1, hj, h => by
    unfold evD
    by_cases hp : (j + 1) % 2 = 0
    · rw [if_pos hp, List.getD_eq_getElem?_getD, List.getElem?_set]
      have hlt := s.lt j (by omega)
      by_cases hc : S j / 4 = S k / 4
      · obtain rfl := s.par j k (by omega) (by omega) hc (by omega)
        rw [if_pos rfl, if_pos (by rw [evD_len]; exact hlt)]; rfl
      · rw [if_neg hc, ← List.getD_eq_getElem?_getD]
        refine evD_at s hk (by omega) ?_
        have : k ≠ j := fun e => hc (by rw [e])
        omega
    · rw [if_neg hp]
      exact evD_at s hk (by omega) (by omega)
/-- The code of a strand, after j passages. -/
def cdD (n : Nat) (S : Nat → Nat) : Nat → List Int
  | 0 => []
  | j + 1 => if j % 2 = 0 then cdD n S j ++ [(evD n S (2 * n)).getD (S j / 4) 0] else cdD n S j
theorem cdD_len (n : Nat) (S : Nat → Nat) : ∀ j, (cdD n S j).length = (j + 1) / 2
  | 0 => rfl
  | j + 1 => by
    unfold cdD
    split
    · rw [List.length_append, cdD_len n S j]; simp; omega
    · rw [cdD_len n S j]; omega
theorem cdD_mem {n : Nat} {S : Nat → Nat} (s : Str n S) : ∀ {j}, j ≤ 2 * n → (∀ x ∈ cdD n S j, ∃ i k, i < j ∧ i % 2 = 0 ∧ k < 2 * n ∧ k % 2 = 1 ∧ S k / 4 = S i / 4 ∧ x.natAbs = k + 1) ∧ ((cdD n S j).map Int.natAbs).Nodup
  | 0, _ => by simp [cdD]
  | j + 1, hj => by
    obtain ⟨h1, h2⟩ := cdD_mem s (j := j) (by omega)
    unfold cdD
    by_cases hp : j % 2 = 0
    · rw [if_pos hp]
      obtain ⟨k, hk, e, hq⟩ := s.part j (by omega)
      have hv := evD_at s (k := k) (by omega) (Nat.le_refl _) hk
      rw [e] at hv
      rw [hv]
      have ha : (if S k % 2 = 1 then -((k : Int) + 1) else (k : Int) + 1).natAbs = k + 1 := by split <;> omega
      generalize (if S k % 2 = 1 then -((k : Int) + 1) else (k : Int) + 1) = y at *
      refine ⟨fun x hx => ?_, ?_⟩
      · rcases List.mem_append.1 hx with hx | hx
        · obtain ⟨i, k, a, b⟩ := h1 x hx
          exact ⟨i, k, by omega, b⟩
        · simp at hx; subst hx
          exact ⟨j, k, by omega, hp, hk, by omega, e, ha⟩
      · rw [List.map_append, List.nodup_append]
        refine ⟨h2, by simp, fun a hx b hb => ?_⟩
        simp at hb
        obtain ⟨z, hz, rfl⟩ := List.mem_map.1 hx
        obtain ⟨i, k', a1, a2, a3, a4, a5, a6⟩ := h1 z hz
        intro he
        rw [he] at a6
        obtain rfl : k = k' := by omega
        have := s.par i j (by omega) (by omega) (by omega) (by omega)
        omega
    · rw [if_neg hp]
      exact ⟨fun x hx => by obtain ⟨i, k, a, b⟩ := h1 x hx; exact ⟨i, k, by omega, b⟩, h2⟩
theorem cdD_good {n : Nat} {S : Nat → Nat} (h1 : 1 ≤ n) (h64 : n ≤ 64) (s : Str n S) : Good (cdD n S (2 * n)) := by
  have hl : (cdD n S (2 * n)).length = n := by rw [cdD_len]; omega
  obtain ⟨a, b⟩ := cdD_mem s (Nat.le_refl _)
  refine ⟨by omega, by omega, fun x hx => ?_, b⟩
  obtain ⟨i, k, c1, c2, c3, c4, c5, c6⟩ := a x hx
  rw [fit_mem, hl, evens_mem]
  exact ⟨(k + 1) / 2, by omega, by omega, by omega⟩
end Go.Proofs.Ytooafhbjbpaacaa

