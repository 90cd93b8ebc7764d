/- The law DowkerValid, reckoned. -/
import Derived.Test.YtooafhbjbpaacaaPlain
import Derived.Test.YtooafhbjbpaacaaAwake
namespace Go.Proofs.Ytooafhbjbpaacaa
open Go.Ab
set_option linter.unusedVariables false
set_option maxRecDepth 20000

theorem awake_call (h : Heap) : ∃ v h', Cal FT HK1 10 [] h v h' ∧ v = .sc (.bool true) ∧ h' = h := ⟨_, _, Cal.hook (g := constHook (.sc (.bool true))) rfl rfl, rfl, rfl⟩

end Go.Proofs.Ytooafhbjbpaacaa
