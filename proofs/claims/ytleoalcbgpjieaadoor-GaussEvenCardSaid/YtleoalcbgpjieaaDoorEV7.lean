/- A strand crosses another one an even number of times; the two visits of a knot to a crossing differ in parity: plain. -/
import Derived.Test.YtleoalcbgpjieaaDoorEV6
import Derived.Test.YtleoalcbgpjieaaDoorS6
namespace Go.Proofs.YtleoalcbgpjieaaDoor
open Go.Ab
set_option linter.unusedVariables false
variable {xs ms : List Int} {l : Int}

theorem turn3 (h : Nat) : turnN (turnN h 3) 3 = turnN h 2 := by unfold turnN; omega
theorem turn21 (h : Nat) : turnN (turnN h 2) 1 = turnN h 3 := by unfold turnN; omega
theorem turn13 (h : Nat) : turnN (turnN h 1) 3 = h := by unfold turnN; omega
theorem turn22 (h : Nat) : turnN (turnN h 2) 2 = h := by unfold turnN; omega
theorem turn12 (h : Nat) : turnN (turnN h 1) 2 = turnN h 3 := by unfold turnN; omega
theorem turn_4 (h k : Nat) : turnN h k / 4 = h / 4 := by unfold turnN; omega
theorem psi_turn (ms : List Int) (h : Nat) : psi ms h = turnN (mateN ms h) 2 := rfl
/-- The sides of the edges of x, and how they change along a strand. -/
theorem colour (hF : Front xs ms l) (hS : Sph ms xs.length) {x : Nat → Bool} (hx : ∀ h, h < ms.length → x (mateN ms h) = x h) (ht : ∀ h, h < ms.length → x (turnN h 2) = x h) :
    ∃ b : Nat → Bool, (∀ h, h < ms.length → b (turnN h 3) = xor (b h) (x h)) ∧ ∀ h, h < ms.length → b (psi ms h) = xor (b h) (x (turnN (psi ms h) 1)) := by
  have h4 := hF.four
  obtain ⟨b, h1, h2⟩ := bounds hF hS x hx (fun c hc => by
    have t0 := ht (4 * c) (by omega)
    have t1 := ht (4 * c + 1) (by omega)
    rw [show turnN (4 * c) 2 = 4 * c + 2 by unfold turnN; omega] at t0
    rw [show turnN (4 * c + 1) 2 = 4 * c + 3 by unfold turnN; omega] at t1
    rw [t0, t1]
    cases x (4 * c) <;> cases x (4 * c + 1) <;> rfl)
  have hm : ∀ h, h < ms.length → b (mateN ms h) = xor (b h) (x h) := fun h hh => by
    rw [← h2 h hh]
    cases b h <;> cases b (mateN ms h) <;> rfl
  have h3 : ∀ h, h < ms.length → b (turnN h 3) = xor (b h) (x h) := fun h hh => by
    obtain ⟨_, c, d, _⟩ := hF.mateg hh
    have e := h1 _ c
    have : phi ms (mateN ms h) = turnN h 3 := by
      show turnN (mateN ms (mateN ms h)) 3 = _
      rw [d]
    rw [← this, e, hm h hh]
  refine ⟨b, h3, fun h hh => ?_⟩
  obtain ⟨_, c, d, _⟩ := hF.mateg hh
  have c3 : turnN (mateN ms h) 3 < ms.length := by unfold turnN; omega
  rw [psi_turn, turn21, ← turn3, h3 _ c3, h3 _ c, hm h hh, hx h hh]
  cases b h <;> cases x h <;> cases x (turnN (mateN ms h) 3) <;> rfl
theorem cyc_col {b z : Nat → Bool} (hF : Front xs ms l) (hb : ∀ h, h < ms.length → b (psi ms h) = xor (b h) (z (psi ms h))) {s : Nat} (hs : s < ms.length) : ∀ j, b (it (psi ms) j s) = xor (b s) (smB z ((List.range j).map fun i => it (psi ms) (i + 1) s))
  | 0 => by simp [it, smB]
  | j + 1 => by
    rw [List.range_succ, List.map_append, smB_app, ← Bool.xor_assoc, ← cyc_col hF hb hs j]
    show b (psi ms (it (psi ms) j s)) = _
    rw [hb _ (hF.mates.pit_lt hs j)]
    simp [smB, it]
/-- All round a strand nothing changes. -/
theorem cyc_even {b z : Nat → Bool} (hF : Front xs ms l) (hb : ∀ h, h < ms.length → b (psi ms h) = xor (b h) (z (psi ms h))) {s : Nat} (hs : s < ms.length) {L : List Nat} (hL : Cyc (psi ms) s L) : smB z L = false := by
  obtain ⟨k, rfl, h2, h3⟩ := hL
  have h1 := cyc_col hF hb hs (k + 1)
  rw [h2] at h1
  have h5 : smB z ((List.range (k + 1)).map fun i => it (psi ms) (i + 1) s) = false := by
    revert h1
    cases b s <;> cases smB z ((List.range (k + 1)).map fun i => it (psi ms) (i + 1) s) <;> simp
  rw [List.range_succ, List.map_append, smB_app] at h5
  simp only [List.map_cons, List.map_nil, h2] at h5
  unfold orbN
  rw [List.range_succ_eq_map, List.map_cons, smB, List.map_map]
  have e : (List.range k).map ((fun j => it (psi ms) j s) ∘ Nat.succ) = (List.range k).map fun i => it (psi ms) (i + 1) s := rfl
  rw [e]
  rw [smB, smB] at h5
  show xor (z s) _ = false
  rw [Bool.xor_comm, ← h5]
  simp
theorem psi_mem (hF : Front xs ms l) {s : Nat} (hs : s < ms.length) {L : List Nat} (hL : Cyc (psi ms) s L) {p : Nat} (hp : p < ms.length) : psi ms p ∈ L ↔ p ∈ L := by
  rw [hL.mem, hL.mem]
  constructor
  · rintro ⟨j, hj⟩
    obtain ⟨i, hi⟩ := orb_symm (psi_inj hF.mates hF.inv) (fun h hh => hF.mates.psi_lt hh) hp (j := 1) (h := psi ms p) rfl
    exact ⟨i + j, by rw [it_add, hj, hi]⟩
  · rintro ⟨j, hj⟩
    exact ⟨j + 1, by show psi ms (it (psi ms) j s) = _; rw [hj]⟩
theorem out_turn (hF : Front xs ms l) {h : Nat} (hh : h < ms.length) : outB xs (turnN h 2) = !outB xs h := by
  have hlen := hF.four
  have hx : xs[h / 4]? = some (xs.getD (h / 4) 0) := by simp [List.getD, show h / 4 < xs.length by omega]
  have hs := hF.sgn _ (List.mem_of_getElem? hx)
  have hd : turnN h 2 / 4 = h / 4 := turn_4 h 2
  have hr : turnN h 2 % 4 = (h % 4 + 2) % 4 := by unfold turnN; omega
  unfold outB
  rw [hd, hr]
  have h4 : h % 4 = 0 ∨ h % 4 = 1 ∨ h % 4 = 2 ∨ h % 4 = 3 := by omega
  rcases h4 with h | h | h | h <;> rw [h] <;> rcases hs with hs | hs <;> rw [hs] <;> rfl
/-- On the strand. -/
def onS (xs ms : List Int) (L : List Nat) (h : Nat) : Bool := if outB xs h = true then decide (h ∈ L) else decide (mateN ms h ∈ L)
theorem onS_out {L : List Nat} {h : Nat} (ho : outB xs h = true) : onS xs ms L h = decide (h ∈ L) := by unfold onS; rw [if_pos ho]
theorem onS_mate (hF : Front xs ms l) {L : List Nat} {h : Nat} (hh : h < ms.length) : onS xs ms L (mateN ms h) = onS xs ms L h := by
  obtain ⟨_, b, c, _, e⟩ := hF.mateg hh
  unfold onS
  rw [c]
  cases h1 : outB xs h <;> cases h2 : outB xs (mateN ms h) <;> simp_all
theorem onS_turn (hF : Front xs ms l) {s : Nat} (hs : s < ms.length) {L : List Nat} (hL : Cyc (psi ms) s L) {h : Nat} (hh : h < ms.length) : onS xs ms L (turnN h 2) = onS xs ms L h := by
  have h4 := hF.four
  have ht : turnN h 2 < ms.length := by unfold turnN; omega
  have key : ∀ g, g < ms.length → (turnN g 2 ∈ L ↔ mateN ms g ∈ L) := fun g hg => by
    obtain ⟨_, b, c, _⟩ := hF.mateg hg
    rw [← psi_mem hF hs hL b, psi_turn, c]
  unfold onS
  rw [out_turn hF hh]
  have k1 := key h hh
  have k2 := key _ ht
  rw [turn22] at k2
  cases outB xs h with
  | true => simp only [Bool.not_true, if_true]; rw [if_neg (by simp)]; exact decide_eq_decide.2 k2.symm
  | false => simp only [Bool.not_false, if_true]; rw [if_neg (by simp)]; exact decide_eq_decide.2 k1
/-- A strand meets another one an even number of times. -/
theorem meet_even (hF : Front xs ms l) (hS : Sph ms xs.length) {s t : Nat} (hs : s < ms.length) (ht : t < ms.length) {L M : List Nat} (hL : Cyc (psi ms) s L) (hM : Cyc (psi ms) t M) : smB (fun g => onS xs ms L (turnN g 1)) M = false := by
  obtain ⟨b, _, h2⟩ := colour hF hS (x := onS xs ms L) (fun h hh => onS_mate hF hh) (fun h hh => onS_turn hF hs hL hh)
  exact cyc_even (z := fun g => onS xs ms L (turnN g 1)) hF h2 ht hM
/-- A chessboard along a strand. -/
theorem chess (hF : Front xs ms l) (hS : Sph ms xs.length) : ∃ b : Nat → Bool, (∀ h, h < ms.length → b (turnN h 3) = !b h) ∧ ∀ s, s < ms.length → ∀ j, b (it (psi ms) j s) = xor (b s) (decide (j % 2 = 1)) := by
  obtain ⟨b, h1, h2⟩ := colour hF hS (x := fun _ => true) (fun _ _ => rfl) (fun _ _ => rfl)
  refine ⟨b, fun h hh => by rw [h1 h hh]; simp, fun s hs j => ?_⟩
  induction j with
  | zero => simp [it]
  | succ j ih =>
    show b (psi ms (it (psi ms) j s)) = _
    rw [h2 _ (hF.mates.pit_lt hs j), ih]
    have : j % 2 = 0 ∨ j % 2 = 1 := by omega
    rcases this with e | e
    · rw [e, show (j + 1) % 2 = 1 by omega]; cases b s <;> rfl
    · rw [e, show (j + 1) % 2 = 0 by omega]; cases b s <;> rfl
theorem chess_it (hF : Front xs ms l) {b : Nat → Bool} (h1 : ∀ h, h < ms.length → b (turnN h 3) = !b h) {g h : Nat} (hg : g < ms.length) (hh : h < ms.length) (e : g = turnN h 1 ∨ g = turnN h 3) : b g = !b h := by
  rcases e with rfl | rfl
  · have := h1 _ hg
    rw [turn13] at this
    rw [this]; simp
  · exact h1 h hh
end Go.Proofs.YtleoalcbgpjieaaDoor
