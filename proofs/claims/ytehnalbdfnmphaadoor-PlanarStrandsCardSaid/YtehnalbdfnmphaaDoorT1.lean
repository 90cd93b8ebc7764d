/- Hooks for the library's functions of texts; what they answer. -/
import Derived.Test.YtehnalbdfnmphaaDoorHk
import Derived.Test.YtehnalbdfnmphaaDoorV8
import Derived.Test.YtehnalbdfnmphaaDoorAb32
namespace Go.Proofs.YtehnalbdfnmphaaDoor
open Go.Ab
set_option linter.unusedVariables false

noncomputable def HKt : FuncId → Option Hook := fun f => if f = 26 then some itoaHook else if f = 11 then some (constHook (.sc (.bool true))) else if f = 24 then some splitHook else HK0 f
theorem awake_callT (h : Heap) : ∃ v h', Cal FT HKt 11 [] h v h' ∧ v = .sc (.bool true) ∧ h' = h := ⟨_, _, Cal.hook (g := constHook (.sc (.bool true))) rfl rfl, rfl, rfl⟩
theorem itoa_call {h : Heap} (n : Int) (hn : -9223372036854775808 ≤ n ∧ n ≤ 9223372036854775807) : ∃ v h', Cal FT HKt 26 [.sc (.int .i64 n)] h v h' ∧ h' = h ∧ v = .sc (tb (Lib.itoa n)) :=
  ⟨_, _, Cal.hook (g := itoaHook) rfl (by simp only [itoaHook]; rw [if_pos hn]), rfl, rfl⟩
end Go.Proofs.YtehnalbdfnmphaaDoor
