/- THE PARITY THEOREM: in a valid diagram of one strand the two passages of a crossing differ in parity: plain. -/
import Derived.Test.YtooafhbjbpaacaaPT5
import Derived.Test.YtooafhbjbpaacaaDP9
namespace Go.Proofs.Ytooafhbjbpaacaa
open Go.Ab
set_option linter.unusedVariables false
variable {xs ms : List Int} {l : Int}

/-- A chessboard: the colours alternate round a crossing, and change with the mate. -/
theorem chess (hV : PV xs ms l) (h1n : 1 ≤ xs.length) (hC : Conn xs.length ms) : ∃ b : Nat → Bool, (∀ h, h < ms.length → b (turnN h 3) = !b h) ∧ ∀ h, h < ms.length → b (mateN ms h) = !b h := by
  have hF := hV.1
  have h4 := hF.four
  have hO := conn_one hF.mates hF.inv h4 hC
  have hFc := (one_sph h1n hF.mates hF.inv hF.fits hO).1 hV.2
  obtain ⟨b, h1, h2⟩ := bounds hF h1n hC hFc (fun _ => true) (fun _ _ => rfl) (fun _ _ => rfl)
  have hm : ∀ h, h < ms.length → b (mateN ms h) = !b h := fun h hh => by
    have : xor (b h) (b (mateN ms h)) = true := h2 h hh
    revert this
    cases b h <;> cases b (mateN ms h) <;> simp
  refine ⟨b, fun h hh => ?_, hm⟩
  obtain ⟨_, c, d, _⟩ := hF.mateg hh
  have h3 := h1 _ c
  have : phi ms (mateN ms h) = turnN h 3 := by
    show turnN (mateN ms (mateN ms h)) 3 = _
    rw [d]
  rw [← this, h3, hm h hh]
theorem chess2 {b : Nat → Bool} (hl : ms.length % 4 = 0) (hb : ∀ h, h < ms.length → b (turnN h 3) = !b h) {h : Nat} (hh : h < ms.length) : b (turnN h 2) = b h ∧ b h = xor (b (4 * (h / 4))) (decide (h % 4 % 2 = 1)) := by
  have t0 := hb (4 * (h / 4)) (by omega)
  have t3 := hb (4 * (h / 4) + 3) (by omega)
  have t2 := hb (4 * (h / 4) + 2) (by omega)
  rw [show turnN (4 * (h / 4)) 3 = 4 * (h / 4) + 3 by unfold turnN; omega] at t0
  rw [show turnN (4 * (h / 4) + 3) 3 = 4 * (h / 4) + 2 by unfold turnN; omega, t0] at t3
  rw [show turnN (4 * (h / 4) + 2) 3 = 4 * (h / 4) + 1 by unfold turnN; omega, t3] at t2
  have hd : h % 4 = 0 ∨ h % 4 = 1 ∨ h % 4 = 2 ∨ h % 4 = 3 := by omega
  rcases hd with e | e | e | e
  · have eh : h = 4 * (h / 4) := by omega
    rw [show turnN h 2 = 4 * (h / 4) + 2 by unfold turnN; omega, t3, e]
    rw [← eh]; simp
  · have eh : h = 4 * (h / 4) + 1 := by omega
    have e2 : b h = b (4 * (h / 4) + 1) := by rw [← eh]
    rw [show turnN h 2 = 4 * (h / 4) + 3 by unfold turnN; omega, t0, e, e2, t2]
    simp
  · have eh : h = 4 * (h / 4) + 2 := by omega
    have e2 : b h = b (4 * (h / 4) + 2) := by rw [← eh]
    rw [show turnN h 2 = 4 * (h / 4) by unfold turnN; omega, e, e2, t3]
    simp
  · have eh : h = 4 * (h / 4) + 3 := by omega
    have e2 : b h = b (4 * (h / 4) + 3) := by rw [← eh]
    rw [show turnN h 2 = 4 * (h / 4) + 1 by unfold turnN; omega, e, e2, t2, t0]
    simp
/-- Along the strand the colour changes at each step. -/
theorem chess_it {b : Nat → Bool} (hF : Front xs ms l) (hb : ∀ h, h < ms.length → b (turnN h 3) = !b h) (hm : ∀ h, h < ms.length → b (mateN ms h) = !b h) {h : Nat} (hh : h < ms.length) : ∀ j, b (it (psi ms) j h) = xor (b h) (decide (j % 2 = 1))
  | 0 => by simp [it]
  | j + 1 => by
    have h4 := hF.four
    have hlt := hF.mates.pit_lt hh j
    obtain ⟨_, c, _⟩ := hF.mateg hlt
    have ih := chess_it hF hb hm hh j
    show b (turnN (mateN ms (it (psi ms) j h)) 2) = _
    rw [(chess2 (by omega) hb c).1, hm _ hlt, ih]
    have : j % 2 = 0 ∨ j % 2 = 1 := by omega
    rcases this with e | e
    · rw [e, show (j + 1) % 2 = 1 by omega]; cases b h <;> rfl
    · rw [e, show (j + 1) % 2 = 0 by omega]; cases b h <;> rfl
end Go.Proofs.Ytooafhbjbpaacaa


namespace Go.Proofs.Ytooafhbjbpaacaa
open Go.Ab
set_option linter.unusedVariables false
variable {xs ms : List Int} {l : Int}

/-- Each outgoing half lies on the one strand. -/
theorem one_all (hF : Front xs ms l) {t : Nat} (ht : t < ms.length) (hst : starts xs ms ms.length = [t]) : outB xs t = true ∧ ∀ h, h < ms.length → outB xs h = true → ∃ j, it (psi ms) j t = h := by
  have hi := psi_inj hF.mates hF.inv
  have hl : ∀ h, h < ms.length → psi ms h < ms.length := fun h hh => hF.mates.psi_lt hh
  have hm : t ∈ starts xs ms ms.length := by rw [hst]; simp
  refine ⟨(starts_mem.1 hm).2.1, fun h hh ho => ?_⟩
  obtain ⟨s, j, a, b, c⟩ := orb_least hi hl h hh
  obtain ⟨i, hi2⟩ := orb_symm hi hl a c
  have hso : outB xs s = true := by rw [← hi2]; exact pit_out hF hh ho i
  have : s ∈ starts xs ms ms.length := starts_mem.2 ⟨a, hso, b⟩
  rw [hst, List.mem_singleton] at this
  subst this
  exact ⟨j, c⟩
/-- One strand: in one piece. -/
theorem one_conn (hF : Front xs ms l) {t : Nat} (ht : t < ms.length) (hst : starts xs ms ms.length = [t]) : Conn xs.length ms := by
  have h4 := hF.four
  obtain ⟨ho, hall⟩ := one_all hF ht hst
  have hi := psi_inj hF.mates hF.inv
  have hl : ∀ h, h < ms.length → psi ms h < ms.length := fun h hh => hF.mates.psi_lt hh
  intro K h0 hK c hc
  -- each crossing has an outgoing half
  have hout : ∀ c, c < xs.length → ∃ h, h < ms.length ∧ h / 4 = c ∧ outB xs h = true := fun c hc => by
    have hx : xs[c]? = some (xs.getD c 0) := by simp [List.getD, hc]
    have hs := hF.sgn _ (List.mem_of_getElem? hx)
    refine ⟨4 * c + 2, by omega, by omega, ?_⟩
    unfold outB
    rw [show (4 * c + 2) / 4 = c by omega, show (4 * c + 2) % 4 = 2 by omega]
    rcases hs with h | h <;> rw [h] <;> rfl
  obtain ⟨g0, a0, b0, c0⟩ := hout 0 (by omega)
  obtain ⟨gc, ac, bc, cc⟩ := hout c hc
  obtain ⟨j0, e0⟩ := hall g0 a0 c0
  obtain ⟨jc, ec⟩ := hall gc ac cc
  obtain ⟨i, ei⟩ := orb_symm hi hl ht e0
  have key : ∀ j, K (it (psi ms) j g0 / 4) := by
    intro j
    induction j with
    | zero => show K (g0 / 4); rw [b0]; exact h0
    | succ j ih =>
      have hlt := hF.mates.pit_lt a0 j
      have := hK _ (by omega) ih
      show K (turnN (mateN ms (it (psi ms) j g0)) 2 / 4)
      rw [turn_div]; exact this
  have := key (jc + i)
  rw [it_add, ei, ec, bc] at this
  exact this
end Go.Proofs.Ytooafhbjbpaacaa

