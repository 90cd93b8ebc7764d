/- THE PARITY THEOREM: in a valid diagram of one strand the two passages of a crossing differ in parity: plain. -/
import Derived.Test.YtooafhbjbpaacaaPT5
import Derived.Test.YtooafhbjbpaacaaDP9
import Derived.Test.YtooafhbjbpaacaaDP7
namespace Go.Proofs.Ytooafhbjbpaacaa
open Go.Ab
set_option linter.unusedVariables false
variable {xs ms : List Int} {l : Int}

/-- A chessboard: the colours alternate round a crossing, and change with the mate. -/
theorem chess (hV : PV xs ms l) (h1n : 1 ≤ xs.length) (hC : Conn xs.length ms) : ∃ b : Nat → Bool, (∀ h, h < ms.length → b (turnN h 3) = !b h) ∧ ∀ h, h < ms.length → b (mateN ms h) = !b h := by
  have hF := hV.1
  have h4 := hF.four
  have hO := conn_one hF.mates hF.inv h4 hC
  have hFc := (one_sph h1n hF.mates hF.inv hF.fits hO).1 hV.2
  obtain ⟨b, h1, h2⟩ := bounds hF h1n hC hFc (fun _ => true) (fun _ _ => rfl) (fun _ _ => rfl)
  have hm : ∀ h, h < ms.length → b (mateN ms h) = !b h := fun h hh => by
    have : xor (b h) (b (mateN ms h)) = true := h2 h hh
    revert this
    cases b h <;> cases b (mateN ms h) <;> simp
  refine ⟨b, fun h hh => ?_, hm⟩
  obtain ⟨_, c, d, _⟩ := hF.mateg hh
  have h3 := h1 _ c
  have : phi ms (mateN ms h) = turnN h 3 := by
    show turnN (mateN ms (mateN ms h)) 3 = _
    rw [d]
  rw [← this, h3, hm h hh]
theorem chess2 {b : Nat → Bool} (hl : ms.length % 4 = 0) (hb : ∀ h, h < ms.length → b (turnN h 3) = !b h) {h : Nat} (hh : h < ms.length) : b (turnN h 2) = b h ∧ b h = xor (b (4 * (h / 4))) (decide (h % 4 % 2 = 1)) := by
  have t0 := hb (4 * (h / 4)) (by omega)
  have t3 := hb (4 * (h / 4) + 3) (by omega)
  have t2 := hb (4 * (h / 4) + 2) (by omega)
  rw [show turnN (4 * (h / 4)) 3 = 4 * (h / 4) + 3 by unfold turnN; omega] at t0
  rw [show turnN (4 * (h / 4) + 3) 3 = 4 * (h / 4) + 2 by unfold turnN; omega, t0] at t3
  rw [show turnN (4 * (h / 4) + 2) 3 = 4 * (h / 4) + 1 by unfold turnN; omega, t3] at t2
  have hd : h % 4 = 0 ∨ h % 4 = 1 ∨ h % 4 = 2 ∨ h % 4 = 3 := by omega
  rcases hd with e | e | e | e
  · have eh : h = 4 * (h / 4) := by omega
    rw [show turnN h 2 = 4 * (h / 4) + 2 by unfold turnN; omega, t3, e]
    rw [← eh]; simp
  · have eh : h = 4 * (h / 4) + 1 := by omega
    have e2 : b h = b (4 * (h / 4) + 1) := by rw [← eh]
    rw [show turnN h 2 = 4 * (h / 4) + 3 by unfold turnN; omega, t0, e, e2, t2]
    simp
  · have eh : h = 4 * (h / 4) + 2 := by omega
    have e2 : b h = b (4 * (h / 4) + 2) := by rw [← eh]
    rw [show turnN h 2 = 4 * (h / 4) by unfold turnN; omega, e, e2, t3]
    simp
  · have eh : h = 4 * (h / 4) + 3 := by omega
    have e2 : b h = b (4 * (h / 4) + 3) := by rw [← eh]
    rw [show turnN h 2 = 4 * (h / 4) + 1 by unfold turnN; omega, e, e2, t2, t0]
    simp
/-- Along the strand the colour changes at each step. -/
theorem chess_it {b : Nat → Bool} (hF : Front xs ms l) (hb : ∀ h, h < ms.length → b (turnN h 3) = !b h) (hm : ∀ h, h < ms.length → b (mateN ms h) = !b h) {h : Nat} (hh : h < ms.length) : ∀ j, b (it (psi ms) j h) = xor (b h) (decide (j % 2 = 1))
  | 0 => by simp [it]
  | j + 1 => by
    have h4 := hF.four
    have hlt := hF.mates.pit_lt hh j
    obtain ⟨_, c, _⟩ := hF.mateg hlt
    have ih := chess_it hF hb hm hh j
    show b (turnN (mateN ms (it (psi ms) j h)) 2) = _
    rw [(chess2 (by omega) hb c).1, hm _ hlt, ih]
    have : j % 2 = 0 ∨ j % 2 = 1 := by omega
    rcases this with e | e
    · rw [e, show (j + 1) % 2 = 1 by omega]; cases b h <;> rfl
    · rw [e, show (j + 1) % 2 = 0 by omega]; cases b h <;> rfl
end Go.Proofs.Ytooafhbjbpaacaa


namespace Go.Proofs.Ytooafhbjbpaacaa
open Go.Ab
set_option linter.unusedVariables false
variable {xs ms : List Int} {l : Int}

/-- Each outgoing half lies on the one strand. -/
theorem one_all (hF : Front xs ms l) {t : Nat} (ht : t < ms.length) (hst : starts xs ms ms.length = [t]) : outB xs t = true ∧ ∀ h, h < ms.length → outB xs h = true → ∃ j, it (psi ms) j t = h := by
  have hi := psi_inj hF.mates hF.inv
  have hl : ∀ h, h < ms.length → psi ms h < ms.length := fun h hh => hF.mates.psi_lt hh
  have hm : t ∈ starts xs ms ms.length := by rw [hst]; simp
  refine ⟨(starts_mem.1 hm).2.1, fun h hh ho => ?_⟩
  obtain ⟨s, j, a, b, c⟩ := orb_least hi hl h hh
  obtain ⟨i, hi2⟩ := orb_symm hi hl a c
  have hso : outB xs s = true := by rw [← hi2]; exact pit_out hF hh ho i
  have : s ∈ starts xs ms ms.length := starts_mem.2 ⟨a, hso, b⟩
  rw [hst, List.mem_singleton] at this
  subst this
  exact ⟨j, c⟩
/-- One strand: in one piece. -/
theorem one_conn (hF : Front xs ms l) {t : Nat} (ht : t < ms.length) (hst : starts xs ms ms.length = [t]) : Conn xs.length ms := by
  have h4 := hF.four
  obtain ⟨ho, hall⟩ := one_all hF ht hst
  have hi := psi_inj hF.mates hF.inv
  have hl : ∀ h, h < ms.length → psi ms h < ms.length := fun h hh => hF.mates.psi_lt hh
  intro K h0 hK c hc
  -- each crossing has an outgoing half
  have hout : ∀ c, c < xs.length → ∃ h, h < ms.length ∧ h / 4 = c ∧ outB xs h = true := fun c hc => by
    have hx : xs[c]? = some (xs.getD c 0) := by simp [List.getD, hc]
    have hs := hF.sgn _ (List.mem_of_getElem? hx)
    refine ⟨4 * c + 2, by omega, by omega, ?_⟩
    unfold outB
    rw [show (4 * c + 2) / 4 = c by omega, show (4 * c + 2) % 4 = 2 by omega]
    rcases hs with h | h <;> rw [h] <;> rfl
  obtain ⟨g0, a0, b0, c0⟩ := hout 0 (by omega)
  obtain ⟨gc, ac, bc, cc⟩ := hout c hc
  obtain ⟨j0, e0⟩ := hall g0 a0 c0
  obtain ⟨jc, ec⟩ := hall gc ac cc
  obtain ⟨i, ei⟩ := orb_symm hi hl ht e0
  have key : ∀ j, K (it (psi ms) j g0 / 4) := by
    intro j
    induction j with
    | zero => show K (g0 / 4); rw [b0]; exact h0
    | succ j ih =>
      have hlt := hF.mates.pit_lt a0 j
      have := hK _ (by omega) ih
      show K (turnN (mateN ms (it (psi ms) j g0)) 2 / 4)
      rw [turn_div]; exact this
  have := key (jc + i)
  rw [it_add, ei, ec, bc] at this
  exact this
end Go.Proofs.Ytooafhbjbpaacaa



namespace Go.Proofs.Ytooafhbjbpaacaa
open Go.Ab
set_option linter.unusedVariables false
variable {xs ms : List Int} {l : Int}

/-- The orbit's elements are different. -/
theorem orbN_inj {n : Nat} {f : Nat → Nat} (hi : Inj n f) (hl : ∀ h, h < n → f h < n) {h k : Nat} (hh : h < n) (hk : ∀ j, 1 ≤ j → j ≤ k → it f j h ≠ h) {i j : Nat} (hi1 : i ≤ k) (hj1 : j ≤ k) (he : it f i h = it f j h) : i = j := by
  rcases Nat.lt_trichotomy i j with h1 | h1 | h1
  · have := it_cancel hi hl hh i (j - i) (by rw [show i + (j - i) = j by omega]; exact he)
    exact absurd this (hk _ (by omega) (by omega))
  · exact h1
  · have := it_cancel hi hl hh j (i - j) (by rw [show j + (i - j) = i by omega]; exact he.symm)
    exact absurd this (hk _ (by omega) (by omega))
/-- Two outgoing halves of a crossing in slots of one parity are the same. -/
theorem out_same4 (hF : Front xs ms l) {g h : Nat} (hg : g < ms.length) (hh : h < ms.length) (hc : g / 4 = h / 4) (og : outB xs g = true) (oh : outB xs h = true) (hp : g % 4 % 2 = h % 4 % 2) : g = h := by
  have h4 := hF.four
  have hx : xs[h / 4]? = some (xs.getD (h / 4) 0) := by simp [List.getD, show h / 4 < xs.length by omega]
  have hs := hF.sgn _ (List.mem_of_getElem? hx)
  unfold outB at og oh
  rw [hc] at og
  have a : g % 4 = 0 ∨ g % 4 = 1 ∨ g % 4 = 2 ∨ g % 4 = 3 := by omega
  have b : h % 4 = 0 ∨ h % 4 = 1 ∨ h % 4 = 2 ∨ h % 4 = 3 := by omega
  rcases hs with hs | hs <;> rw [hs] at og oh <;> rcases a with a | a | a | a <;> rcases b with b | b | b | b <;> rw [a] at og hp <;> rw [b] at oh hp <;> first | omega | (exact absurd og (by decide)) | (exact absurd oh (by decide))
/-- The other outgoing half of a crossing. -/
theorem out_other (hF : Front xs ms l) {h : Nat} (hh : h < ms.length) (oh : outB xs h = true) : ∃ g, g < ms.length ∧ g / 4 = h / 4 ∧ outB xs g = true ∧ g ≠ h := by
  have h4 := hF.four
  have hx : xs[h / 4]? = some (xs.getD (h / 4) 0) := by simp [List.getD, show h / 4 < xs.length by omega]
  have hs := hF.sgn _ (List.mem_of_getElem? hx)
  have o2 : outB xs (4 * (h / 4) + 2) = true := by
    unfold outB
    rw [show (4 * (h / 4) + 2) / 4 = h / 4 by omega, show (4 * (h / 4) + 2) % 4 = 2 by omega]
    rcases hs with e | e <;> rw [e] <;> rfl
  by_cases hc : h = 4 * (h / 4) + 2
  · rcases hs with e | e
    · refine ⟨4 * (h / 4) + 1, by omega, by omega, ?_, by omega⟩
      unfold outB
      rw [show (4 * (h / 4) + 1) / 4 = h / 4 by omega, show (4 * (h / 4) + 1) % 4 = 1 by omega, e]; rfl
    · refine ⟨4 * (h / 4) + 3, by omega, by omega, ?_, by omega⟩
      unfold outB
      rw [show (4 * (h / 4) + 3) / 4 = h / 4 by omega, show (4 * (h / 4) + 3) % 4 = 3 by omega, e]; rfl
  · exact ⟨_, by omega, by omega, o2, fun e => hc e.symm⟩
/-- THE PASSAGES OF A VALID DIAGRAM OF ONE STRAND. -/
theorem one_str_of (hV : PV xs ms l) (h1n : 1 ≤ xs.length) {t : Nat} (hst : starts xs ms ms.length = [t]) :
    t < ms.length ∧ outB xs t = true ∧ Str xs.length (fun j => it (psi ms) j t) ∧ strs xs ms = [(List.range (2 * xs.length)).map fun j => it (psi ms) j t] ∧ it (psi ms) (2 * xs.length) t = t ∧ (∀ i j, i < 2 * xs.length → j < 2 * xs.length → it (psi ms) i t = it (psi ms) j t → i = j) ∧ ∀ h, h < ms.length → outB xs h = true → ∃ j, j < 2 * xs.length ∧ it (psi ms) j t = h := by
  have hF := hV.1
  have h4 := hF.four
  have hm : t ∈ starts xs ms ms.length := by rw [hst]; simp
  have ht : t < ms.length := (starts_mem.1 hm).1
  have hi := psi_inj hF.mates hF.inv
  have hl : ∀ h, h < ms.length → psi ms h < ms.length := fun h hh => hF.mates.psi_lt hh
  obtain ⟨hot, hall⟩ := one_all hF ht hst
  have hC := one_conn hF ht hst
  obtain ⟨b, hb, hbm⟩ := chess hV h1n hC
  obtain ⟨k, hL, hk1, hk2⟩ := (cyc_is hF.mates hF.inv ht).1
  have hinj := fun i j => orbN_inj hi hl ht hk2 (i := i) (j := j)
  -- as many as outgoing halves
  have hkn : k + 1 = 2 * xs.length := by
    have hp : (orbN (psi ms) t k).Perm (outs xs xs.length) := by
      refine (List.perm_ext_iff_of_nodup ?_ ?_).2 fun h => ?_
      · unfold orbN
        refine List.Pairwise.map _ (R := fun a b => a < k + 1 ∧ b < k + 1 ∧ a ≠ b) (fun a b ⟨h1, h2, h3⟩ he => h3 (hinj a b (by omega) (by omega) he)) ?_
        have hn := List.nodup_range (n := k + 1)
        refine List.Pairwise.imp_of_mem (fun ha hb hne => ⟨by simpa using ha, by simpa using hb, hne⟩) hn
      · unfold outs
        exact List.Pairwise.filter _ List.nodup_range
      · rw [outs_mem hF]
        unfold orbN
        simp only [List.mem_map, List.mem_range]
        constructor
        · rintro ⟨j, _, rfl⟩
          exact ⟨it_lt hl ht j, pit_out hF ht hot j⟩
        · rintro ⟨h1, h2⟩
          obtain ⟨j, hj⟩ := hall h h1 h2
          obtain ⟨i, h3, h5⟩ := it_all hk1 j
          exact ⟨i, by omega, by rw [← h5, hj]⟩
    have := hp.length_eq
    rw [orbN_len, outs_len hF.sgn (Nat.le_refl _)] at this
    exact this
  have hinj2 : ∀ i j, i < 2 * xs.length → j < 2 * xs.length → it (psi ms) i t = it (psi ms) j t → i = j := fun i j h1 h2 => hinj i j (by omega) (by omega)
  have hreach : ∀ h, h < ms.length → outB xs h = true → ∃ j, j < 2 * xs.length ∧ it (psi ms) j t = h := fun h h1 h2 => by
    obtain ⟨j, hj⟩ := hall h h1 h2
    obtain ⟨i, h3, h5⟩ := it_all hk1 j
    exact ⟨i, by omega, by rw [← h5, hj]⟩
  have hpar : ∀ i j, i < 2 * xs.length → j < 2 * xs.length → it (psi ms) i t / 4 = it (psi ms) j t / 4 → i % 2 = j % 2 → i = j := fun i j h1 h2 hc hp => by
    refine hinj2 i j h1 h2 ?_
    refine out_same4 hF (it_lt hl ht i) (it_lt hl ht j) hc (pit_out hF ht hot i) (pit_out hF ht hot j) ?_
    have e1 := (chess2 (by omega) hb (it_lt hl ht i)).2
    have e2 := (chess2 (by omega) hb (it_lt hl ht j)).2
    rw [chess_it hF hb hbm ht i] at e1
    rw [chess_it hF hb hbm ht j, ← hp] at e2
    rw [e1, hc] at e2
    have e3 : decide (it (psi ms) i t % 4 % 2 = 1) = decide (it (psi ms) j t % 4 % 2 = 1) := by
      revert e2
      cases b (4 * (it (psi ms) j t / 4)) <;> cases decide (it (psi ms) i t % 4 % 2 = 1) <;> cases decide (it (psi ms) j t % 4 % 2 = 1) <;> simp
    by_cases q : it (psi ms) i t % 4 % 2 = 1
    · rw [decide_eq_true q] at e3
      have := of_decide_eq_true e3.symm
      omega
    · rw [decide_eq_false q] at e3
      have := of_decide_eq_false e3.symm
      omega
  refine ⟨ht, hot, ⟨fun j hj => ?_, hpar, fun j hj => ?_⟩, ?_, by rw [← hkn]; exact hk1, hinj2, hreach⟩
  · have := it_lt hl ht j
    show it (psi ms) j t / 4 < _
    omega
  · obtain ⟨g, g1, g2, g3, g4⟩ := out_other hF (it_lt hl ht j) (pit_out hF ht hot j)
    obtain ⟨i, i1, i2⟩ := hreach g g1 g3
    refine ⟨i, i1, by show it (psi ms) i t / 4 = _; rw [i2, g2], fun he => g4 ?_⟩
    have := hpar i j i1 hj (by rw [i2, g2]) he
    rw [← i2, this]
  · unfold strs
    rw [hst, List.map_singleton, hL]
    unfold orbN
    rw [hkn]
end Go.Proofs.Ytooafhbjbpaacaa

