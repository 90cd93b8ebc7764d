/- The law's arguments as they lie in memory: slices of integers, slices of such. -/
import Derived.Test.YtgmfjhmphiiifaaDoorW4
import Derived.Test.YtgmfjhmphiiifaaDoorAb51
namespace Go.Proofs.YtgmfjhmphiiifaaDoor
open Go.Ab
set_option linter.unusedVariables false
set_option linter.unusedSimpArgs false
set_option linter.unusedSectionVars false

abbrev RInt : Int → Heap → List SV → Prop := fun n _ ss => ss = [.int .i64 n] ∧ (Lit.int .i64 n).wf = true
abbrev RIs : List Int → Heap → List SV → Prop := fun ds h ss => ∃ s l, ss = [s] ∧ IsSl h s ⟨1, none⟩ ds.length l ∧ RL RInt ds h l
abbrev RVs : List (List Int) → Heap → List SV → Prop := fun ds h ss => ∃ s l, ss = [s] ∧ IsSl h s ⟨1, none⟩ ds.length l ∧ RL RIs ds h l
theorem rl_ints : ∀ {ds : List Int} {h : Heap} {l : List SV}, RL RInt ds h l → l = ds.map (.int .i64)
  | [], h, l, e => e
  | d :: ds, h, l, ⟨l1, l2, e, ⟨a, _⟩, b⟩ => by rw [e, a, rl_ints b]; rfl
theorem RIs.ok {ds : List Int} {h : Heap} {ss : List SV} (a : RIs ds h ss) : ∃ s, ss = [s] ∧ IsInts h s ds := by
  obtain ⟨s, l, e, q, r⟩ := a
  rw [rl_ints r] at q
  exact ⟨s, e, q⟩
/-- A slice of words. -/
def VMx (h : Heap) (s : SV) (ws : List (List Int)) : Prop := ∃ ts : List SV, IsSl h s 1 ts.length ts ∧ Words h ts ws
theorem rl_rows : ∀ {ds : List (List Int)} {h : Heap} {l : List SV}, RL RIs ds h l → Words h l ds
  | [], h, l, e => by
    have : l = [] := e
    subst this
    exact ⟨rfl, fun i t r a => by simp at a⟩
  | d :: ds, h, l, ⟨l1, l2, e, a, b⟩ => by
    obtain ⟨q1, q2⟩ := rl_rows b
    obtain ⟨s, e1, hs⟩ := RIs.ok a
    subst e1
    subst e
    refine ⟨by simp [q1], fun i t r hi hr => ?_⟩
    cases i with
    | zero => simp at hi hr; subst hi hr; exact hs
    | succ i => exact q2 i t r (by simpa using hi) (by simpa using hr)
theorem RVs.ok {ds : List (List Int)} {h : Heap} {ss : List SV} (a : RVs ds h ss) : ∃ s, ss = [s] ∧ VMx h s ds := by
  obtain ⟨s, l, e, q, r⟩ := a
  have w := rl_rows r
  refine ⟨s, e, l, ?_, w⟩
  rw [w.1]
  exact q
section
variable {H : Type} {enc : TypeId × Value → H} {P : Program} {w : World} {base : Nat} {held : Bool}
theorem tok_is {tl ti : TypeId} (hl : P.underlying tl = some (.slice ti)) (hi : P.underlying ti = some (.int .i64)) (ci : P.cellsOf ti = 1) : TOk enc P w base held tl 1 (List Int) RIs :=
  TOk.slice hl ci (by decide) (TOk.int hi)
theorem tok_vs {tv tl ti : TypeId} (hv : P.underlying tv = some (.slice tl)) (hl : P.underlying tl = some (.slice ti)) (hi : P.underlying ti = some (.int .i64)) (cl : P.cellsOf tl = 1) (ci : P.cellsOf ti = 1) : TOk enc P w base held tv 1 (List (List Int)) RVs :=
  TOk.slice hv cl (by decide) (tok_is hl hi ci)
end
end Go.Proofs.YtgmfjhmphiiifaaDoor
