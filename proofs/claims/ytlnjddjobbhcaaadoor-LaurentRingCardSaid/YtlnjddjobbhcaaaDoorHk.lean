/- copyCheck; the hooks over which the wakening is reckoned. -/
import Derived.Test.YtlnjddjobbhcaaaDoorCode
import Derived.Test.YtlnjddjobbhcaaaDoorAb34
import Derived.WalkKit
import Derived.Laws.Externs
namespace Go.Proofs.YtlnjddjobbhcaaaDoor
open Go.Ab Go.RowKit
set_option linter.unusedVariables false

theorem sizeB : (Tryd.prog.info? 90).map (·.size) = some 2 := by kernel_rfl
theorem liesB : liesAt Tryd.prog Tryd.prog.depth 90 (2 / Tryd.prog.cellsOf 90) 0 90 1 = true := by kernel_rfl

set_option maxRecDepth 100000 in
theorem cc_used (b : Nat) (w : World) (h0 : w.cell? ⟨b, 0, none⟩ = some (.pointer (some ⟨b, 0, none⟩))) :
    Calls Tryd.prog 87 #[.pointer (some ⟨b, 0, none⟩)] w fun e w' => e = .returned (.tuple #[]) ∧ w' = w := by
  obtain ⟨j, hj, hjs⟩ := Option.map_eq_some_iff.1 sizeB
  go_enter Tryd.func87, Tryd.ntmps87
  go_wp2
  rw [Lib.run_neq_ptr_same w _ Tryd.underlying87 hj]
  go_wp2
  go_end0
  exact ⟨rfl, rfl⟩

set_option maxHeartbeats 1000000 in
set_option maxRecDepth 100000 in
theorem cc_new (b : Nat) (w : World) (h0 : w.cell? ⟨b, 0, none⟩ = some (.pointer none)) (hsh : w.shape? b = some (90, 2)) (hfz : w.frozen? ⟨b, 0, none⟩ = false) :
    Calls Tryd.prog 87 #[.pointer (some ⟨b, 0, none⟩)] w fun e w' => e = .returned (.tuple #[]) ∧ w' = w.setCell ⟨b, 0, none⟩ (.pointer (some ⟨b, 0, none⟩)) := by
  obtain ⟨j, hj, hjs⟩ := Option.map_eq_some_iff.1 sizeB
  go_enter Tryd.func87, Tryd.ntmps87
  go_wp2
  rw [Lib.run_to_unsafe w ⟨b, 0, none⟩ Tryd.underlying87 Tryd.underlying132 hj (by rw [hjs]; decide) hsh (Nat.zero_lt_succ 1)]
  simp only [Result.andThen]
  rw [Oper.upon_value]
  go_wp2
  rw [run_callFunc_extern Tryd.func101 (by kernel_rfl) (by kernel_rfl) (by kernel_rfl) (e := Extern.AbiNoEscape.same) (by kernel_rfl)]
  rw [Lib.run_noEscape]
  simp only [Result.andThen]
  rw [Oper.upon_value]
  go_wp2
  rw [Lib.run_from_unsafe w ⟨b, 0, none⟩ Tryd.underlying132 Tryd.underlying87 hj hsh liesB]
  simp only [Result.andThen]
  rw [Oper.upon_value]
  go_wp2
  go_end0
  exact ⟨rfl, rfl⟩

def HK0 : FuncId → Option Hook := fun f => if f = 87 then some (ccHook 90) else none
theorem HK0_ok [Base] : HKok Tryd.prog HK0 := fun f g h => by
  unfold HK0 at h
  split at h
  · rename_i hf
    simp only [Option.some.injEq] at h
    subst hf h
    exact ccHook_ok (by kernel_rfl) cc_used cc_new
  · simp at h

/-- The hooks over which the wakening is reckoned. -/
def HKs : FuncId → Option Hook := fun f => if f = 67 then some itoaHookB else HK0 f
end Go.Proofs.YtlnjddjobbhcaaaDoor
