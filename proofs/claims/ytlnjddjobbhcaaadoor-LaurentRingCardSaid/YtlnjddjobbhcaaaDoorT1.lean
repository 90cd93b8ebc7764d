/- Hooks for the library's functions of texts; what they answer. -/
import Derived.Test.YtlnjddjobbhcaaaDoorHk
import Derived.Test.YtlnjddjobbhcaaaDoorAb32
import Derived.Test.YtlnjddjobbhcaaaDoorAb46
namespace Go.Proofs.YtlnjddjobbhcaaaDoor
open Go.Ab
set_option linter.unusedVariables false

def HKt : FuncId → Option Hook := fun f => if f = 67 then some itoaHook else if f = 10 then some (constHook (.sc (.bool true))) else if f = 77 then some (keysHook 93 106) else if f = 76 then some (sortedHook 93 106) else HK0 f
theorem awake_callT (h : Heap) : ∃ v h', Cal FT HKt 10 [] h v h' ∧ v = .sc (.bool true) ∧ h' = h := ⟨_, _, Cal.hook (g := constHook (.sc (.bool true))) rfl rfl, rfl, rfl⟩
theorem itoa_call {h : Heap} (n : Int) (hn : -9223372036854775808 ≤ n ∧ n ≤ 9223372036854775807) : ∃ v h', Cal FT HKt 67 [.sc (.int .i64 n)] h v h' ∧ h' = h ∧ v = .sc (tb (Lib.itoa n)) :=
  ⟨_, _, Cal.hook (g := itoaHook) rfl (by simp only [itoaHook]; rw [if_pos hn]), rfl, rfl⟩
end Go.Proofs.YtlnjddjobbhcaaaDoor
