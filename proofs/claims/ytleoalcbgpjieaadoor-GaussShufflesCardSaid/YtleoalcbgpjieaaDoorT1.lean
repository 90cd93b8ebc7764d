/- The hooks in use. -/
import Derived.Test.YtleoalcbgpjieaaDoorHk
import Derived.Test.YtleoalcbgpjieaaDoorS3
import Derived.Test.YtleoalcbgpjieaaDoorAb32
namespace Go.Proofs.YtleoalcbgpjieaaDoor
open Go.Ab
set_option linter.unusedVariables false

def HKt : FuncId → Option Hook := fun f => if f = 9 then some (constHook (.sc (.bool true))) else HK0 f
theorem awake_callT (h : Heap) : ∃ v h', Cal FT HKt 9 [] h v h' ∧ v = .sc (.bool true) ∧ h' = h := ⟨_, _, Cal.hook (g := constHook (.sc (.bool true))) rfl rfl, rfl, rfl⟩
end Go.Proofs.YtleoalcbgpjieaaDoor
