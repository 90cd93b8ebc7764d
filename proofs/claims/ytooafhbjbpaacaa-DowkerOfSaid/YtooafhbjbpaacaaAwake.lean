/- The wakening: it says true. -/
import Derived.Test.YtooafhbjbpaacaaCode
namespace Go.Proofs.Ytooafhbjbpaacaa
open Go.Ab
set_option linter.unusedVariables false
set_option linter.unusedSectionVars false

def isT : Option (AV × Heap) → Bool
  | some (.sc (.bool b), _) => b
  | _ => false

theorem isT_some {o : Option (AV × Heap)} (h : isT o = true) : ∃ h', o = some (.sc (.bool true), h') := by
  unfold isT at h
  split at h
  · subst h; exact ⟨_, rfl⟩
  · simp at h

theorem awake_run : isT (callA FT noHK 1000 10 [] []) = true := by decide +kernel

def HK1 : FuncId → Option Hook := fun f => if f = 10 then some (constHook (.sc (.bool true))) else none

variable [Base]
theorem awake_ok : HkOK Try.prog 10 (constHook (.sc (.bool true))) := by
  obtain ⟨h', hr⟩ := isT_some awake_run
  refine constHook_ok ft_ok (@noHK_ok ⟨0, default⟩ _) (fun β β' c h => ?_) hr
  cases h; exact .bool _

theorem HK1_ok : HKok Try.prog HK1 := fun f g h => by
  unfold HK1 at h
  split at h
  · rename_i hf
    simp only [Option.some.injEq] at h
    subst hf h
    exact awake_ok
  · simp at h

end Go.Proofs.Ytooafhbjbpaacaa
