/- Slots that are outgoing, counted; what is read. -/
import Derived.Test.YtehnalbdfnmphaaDoorV8
namespace Go.Proofs.YtehnalbdfnmphaaDoor
open Go.Ab
set_option linter.unusedVariables false

/-- Whether the slot of a crossing with a sign is outgoing. -/
def outS (x : Int) (s : Nat) : Bool := (s == 1 && x == 1) || s == 2 || (s == 3 && x == -1)
theorem outB_S (xs : List Int) (h : Nat) : outB xs h = outS (xs.getD (h / 4) 0) (h % 4) := rfl

/-- How many of the half-edges below h are outgoing. -/
def cntO (xs : List Int) (h : Nat) : Nat := ((List.range h).filter (outB xs)).length
theorem cntO_succ (xs : List Int) (h : Nat) : cntO xs (h + 1) = cntO xs h + if outB xs h = true then 1 else 0 := by
  unfold cntO
  rw [List.range_succ, List.filter_append, List.length_append]
  by_cases ho : outB xs h = true <;> simp [ho]
theorem outB_at {xs : List Int} {c r : Nat} (hr : r < 4) : outB xs (4 * c + r) = outS (xs.getD c 0) r := by
  rw [outB_S, show (4 * c + r) / 4 = c by omega, show (4 * c + r) % 4 = r by omega]
theorem cntO_four {xs : List Int} (hs : ∀ x ∈ xs, Sgn x) : ∀ c, c ≤ xs.length → cntO xs (4 * c) = 2 * c
  | 0, _ => rfl
  | c + 1, hc => by
    have ih := cntO_four hs c (by omega)
    have hx : xs[c]? = some (xs.getD c 0) := by simp [List.getD, show c < xs.length by omega]
    have hsg := hs _ (List.mem_of_getElem? hx)
    have o0 := outB_at (xs := xs) (c := c) (r := 0) (by omega)
    have o1 := outB_at (xs := xs) (c := c) (r := 1) (by omega)
    have o2 := outB_at (xs := xs) (c := c) (r := 2) (by omega)
    have o3 := outB_at (xs := xs) (c := c) (r := 3) (by omega)
    rw [show 4 * (c + 1) = 4 * c + 0 + 1 + 1 + 1 + 1 by omega, cntO_succ, cntO_succ, cntO_succ, cntO_succ, Nat.add_zero, ih]
    rw [Nat.add_zero] at o0
    rw [o0, show 4 * c + 1 + 1 + 1 = 4 * c + 3 by omega, o3, show 4 * c + 1 + 1 = 4 * c + 2 by omega, o2, o1]
    rcases hsg with h | h <;> rw [h] <;> simp [outS] <;> omega
theorem cntO_mono (xs : List Int) (h : Nat) : ∀ k, cntO xs h ≤ cntO xs (h + k)
  | 0 => Nat.le_refl _
  | k + 1 => by rw [← Nat.add_assoc, cntO_succ]; have := cntO_mono xs h k; omega
theorem cntO_lt {xs : List Int} (hs : ∀ x ∈ xs, Sgn x) {h : Nat} (hh : h < 4 * xs.length) (ho : outB xs h = true) : cntO xs h < 2 * xs.length := by
  have h1 := cntO_four hs xs.length (Nat.le_refl _)
  have h2 := cntO_succ xs h
  rw [if_pos ho] at h2
  have h3 := cntO_mono xs (h + 1) (4 * xs.length - (h + 1))
  rw [show h + 1 + (4 * xs.length - (h + 1)) = 4 * xs.length by omega, h1] at h3
  omega

/-- What is read. -/
inductive DR where
  | err (e : Nat)
  | ok (xs ms : List Int) (l : Nat)
end Go.Proofs.YtehnalbdfnmphaaDoor
