/- copyCheck; the wakening: it says true. -/
import Derived.Test.YtgmfjhmphiiifaaDoorCode
import Derived.Test.YtgmfjhmphiiifaaDoorAb25
import Derived.WalkKit
import Derived.Laws.Externs
namespace Go.Proofs.YtgmfjhmphiiifaaDoor
open Go.Ab Go.RowKit
set_option linter.unusedVariables false

theorem sizeB : (Tryd.prog.info? 59).map (·.size) = some 2 := by kernel_rfl
theorem liesB : liesAt Tryd.prog Tryd.prog.depth 59 (2 / Tryd.prog.cellsOf 59) 0 59 1 = true := by kernel_rfl

set_option maxRecDepth 100000 in
theorem cc_used (b : Nat) (w : World) (h0 : w.cell? ⟨b, 0, none⟩ = some (.pointer (some ⟨b, 0, none⟩))) :
    Calls Tryd.prog 45 #[.pointer (some ⟨b, 0, none⟩)] w fun e w' => e = .returned (.tuple #[]) ∧ w' = w := by
  obtain ⟨j, hj, hjs⟩ := Option.map_eq_some_iff.1 sizeB
  go_enter Tryd.func45, Tryd.ntmps45
  go_wp2
  rw [Lib.run_neq_ptr_same w _ Tryd.underlying56 hj]
  go_wp2
  go_end0
  exact ⟨rfl, rfl⟩

set_option maxHeartbeats 1000000 in
set_option maxRecDepth 100000 in
theorem cc_new (b : Nat) (w : World) (h0 : w.cell? ⟨b, 0, none⟩ = some (.pointer none)) (hsh : w.shape? b = some (59, 2)) (hfz : w.frozen? ⟨b, 0, none⟩ = false) :
    Calls Tryd.prog 45 #[.pointer (some ⟨b, 0, none⟩)] w fun e w' => e = .returned (.tuple #[]) ∧ w' = w.setCell ⟨b, 0, none⟩ (.pointer (some ⟨b, 0, none⟩)) := by
  obtain ⟨j, hj, hjs⟩ := Option.map_eq_some_iff.1 sizeB
  go_enter Tryd.func45, Tryd.ntmps45
  go_wp2
  rw [Lib.run_to_unsafe w ⟨b, 0, none⟩ Tryd.underlying56 Tryd.underlying74 hj (by rw [hjs]; decide) hsh (Nat.zero_lt_succ 1)]
  simp only [Result.andThen]
  rw [Oper.upon_value]
  go_wp2
  rw [run_callFunc_extern Tryd.func48 (by kernel_rfl) (by kernel_rfl) (by kernel_rfl) (e := Extern.AbiNoEscape.same) (by kernel_rfl)]
  rw [Lib.run_noEscape]
  simp only [Result.andThen]
  rw [Oper.upon_value]
  go_wp2
  rw [Lib.run_from_unsafe w ⟨b, 0, none⟩ Tryd.underlying74 Tryd.underlying56 hj hsh liesB]
  simp only [Result.andThen]
  rw [Oper.upon_value]
  go_wp2
  go_end0
  exact ⟨rfl, rfl⟩

def HK0 : FuncId → Option Hook := fun f => if f = 45 then some (ccHook 59) else none
theorem HK0_ok [Base] : HKok Tryd.prog HK0 := fun f g h => by
  unfold HK0 at h
  split at h
  · rename_i hf
    simp only [Option.some.injEq] at h
    subst hf h
    exact ccHook_ok (by kernel_rfl) cc_used cc_new
  · simp at h

theorem awake_run : isT (callA FT HK0 1000 12 [] []) = true := by decide +kernel
theorem awake_ok [Base] : HkOK Tryd.prog 12 (constHook (.sc (.bool true))) := by
  obtain ⟨h', hr⟩ := isT_some awake_run
  refine constHook_ok ft_ok (@HK0_ok ⟨0, default⟩) (fun β β' c h => ?_) hr
  cases h; exact .bool _

def HK1 : FuncId → Option Hook := fun f => if f = 12 then some (constHook (.sc (.bool true))) else HK0 f
theorem HK1_ok [Base] : HKok Tryd.prog HK1 := fun f g h => by
  unfold HK1 at h
  split at h
  · rename_i hf
    simp only [Option.some.injEq] at h
    subst hf h
    exact awake_ok
  · exact HK0_ok f g h

theorem awake_call (h : Heap) : ∃ v h', Cal FT HK1 12 [] h v h' ∧ v = .sc (.bool true) ∧ h' = h := ⟨_, _, Cal.hook (g := constHook (.sc (.bool true))) rfl rfl, rfl, rfl⟩
end Go.Proofs.YtgmfjhmphiiifaaDoor
