/- copyCheck; the hooks over which the wakening is reckoned. -/
import Derived.Test.YtehnalbdfnmphaaDoorCode
import Derived.Test.YtehnalbdfnmphaaDoorAb34
import Derived.WalkKit
import Derived.Laws.Externs
import Derived.Test.YtehnalbdfnmphaaDoorPP2
import Derived.Test.YtehnalbdfnmphaaDoorV8
import Derived.Test.YtehnalbdfnmphaaDoorAb32
import Derived.Test.YtehnalbdfnmphaaDoorAb38
namespace Go.Proofs.YtehnalbdfnmphaaDoor
open Go.Ab Go.RowKit
set_option linter.unusedVariables false

theorem sizeB : (Tryd.prog.info? 60).map (·.size) = some 2 := by kernel_rfl
theorem liesB : liesAt Tryd.prog Tryd.prog.depth 60 (2 / Tryd.prog.cellsOf 60) 0 60 1 = true := by kernel_rfl

set_option maxRecDepth 100000 in
theorem cc_used (b : Nat) (w : World) (h0 : w.cell? ⟨b, 0, none⟩ = some (.pointer (some ⟨b, 0, none⟩))) :
    Calls Tryd.prog 59 #[.pointer (some ⟨b, 0, none⟩)] w fun e w' => e = .returned (.tuple #[]) ∧ w' = w := by
  obtain ⟨j, hj, hjs⟩ := Option.map_eq_some_iff.1 sizeB
  go_enter Tryd.func59, Tryd.ntmps59
  go_wp2
  rw [Lib.run_neq_ptr_same w _ Tryd.underlying58 hj]
  go_wp2
  go_end0
  exact ⟨rfl, rfl⟩

set_option maxHeartbeats 1000000 in
set_option maxRecDepth 100000 in
theorem cc_new (b : Nat) (w : World) (h0 : w.cell? ⟨b, 0, none⟩ = some (.pointer none)) (hsh : w.shape? b = some (60, 2)) (hfz : w.frozen? ⟨b, 0, none⟩ = false) :
    Calls Tryd.prog 59 #[.pointer (some ⟨b, 0, none⟩)] w fun e w' => e = .returned (.tuple #[]) ∧ w' = w.setCell ⟨b, 0, none⟩ (.pointer (some ⟨b, 0, none⟩)) := by
  obtain ⟨j, hj, hjs⟩ := Option.map_eq_some_iff.1 sizeB
  go_enter Tryd.func59, Tryd.ntmps59
  go_wp2
  rw [Lib.run_to_unsafe w ⟨b, 0, none⟩ Tryd.underlying58 Tryd.underlying112 hj (by rw [hjs]; decide) hsh (Nat.zero_lt_succ 1)]
  simp only [Result.andThen]
  rw [Oper.upon_value]
  go_wp2
  rw [run_callFunc_extern Tryd.func80 (by kernel_rfl) (by kernel_rfl) (by kernel_rfl) (e := Extern.AbiNoEscape.same) (by kernel_rfl)]
  rw [Lib.run_noEscape]
  simp only [Result.andThen]
  rw [Oper.upon_value]
  go_wp2
  rw [Lib.run_from_unsafe w ⟨b, 0, none⟩ Tryd.underlying112 Tryd.underlying58 hj hsh liesB]
  simp only [Result.andThen]
  rw [Oper.upon_value]
  go_wp2
  go_end0
  exact ⟨rfl, rfl⟩

def HK0 : FuncId → Option Hook := fun f => if f = 59 then some (ccHook 60) else none
theorem HK0_ok [Base] : HKok Tryd.prog HK0 := fun f g h => by
  unfold HK0 at h
  split at h
  · rename_i hf
    simp only [Option.some.injEq] at h
    subst hf h
    exact ccHook_ok (by kernel_rfl) cc_used cc_new
  · simp at h

/-- The hooks over which the wakening is reckoned. -/
def HKs : FuncId → Option Hook := fun f => if f = 26 then some itoaHookA else HK0 f
end Go.Proofs.YtehnalbdfnmphaaDoor


namespace Go.Proofs.YtehnalbdfnmphaaDoor
open Go.Ab
theorem awake_run : isT (callA FT HKs 1000 11 [] []) = true := by decide +kernel
theorem awake_ok [Base] (h : HKok Tryd.prog HKs) : HkOK Tryd.prog 11 (constHook (.sc (.bool true))) := by
  obtain ⟨h', hr⟩ := isT_some awake_run
  exact constHook_same ft_ok h (fun β β' c h => by cases h; exact .bool _) hr
end Go.Proofs.YtehnalbdfnmphaaDoor



namespace Go.Proofs.YtehnalbdfnmphaaDoor
open Go.Ab

/-- planar.Parse. -/
noncomputable def parseHook : Hook := fun args h => match args with
  | [.sc (.str b)] => match parR b.data.toList with
    | .err e => some (.tup [.agg [.nilS, .nilS, .int .i64 0], .sc (.int .i64 (e : Nat))], h)
    | .ok xs ms l => some (.tup [.agg [.slc (h.length + 0) 0 xs.length (some xs.length), .slc (h.length + 1) 0 ms.length (some ms.length), .int .i64 (l : Nat)], .sc (.int .i64 0)], h ++ [EX xs, EX ms])
  | _ => none
end Go.Proofs.YtehnalbdfnmphaaDoor


namespace Go.Proofs.YtehnalbdfnmphaaDoor
open Go.Ab
set_option linter.unusedVariables false

noncomputable def HKt : FuncId → Option Hook := fun f => if f = 26 then some itoaHook else if f = 11 then some (constHook (.sc (.bool true))) else if f = 22 then some parseHook else if f = 64 then some cutHook else HK0 f
theorem awake_callT (h : Heap) : ∃ v h', Cal FT HKt 11 [] h v h' ∧ v = .sc (.bool true) ∧ h' = h := ⟨_, _, Cal.hook (g := constHook (.sc (.bool true))) rfl rfl, rfl, rfl⟩
theorem itoa_call {h : Heap} (n : Int) (hn : -9223372036854775808 ≤ n ∧ n ≤ 9223372036854775807) : ∃ v h', Cal FT HKt 26 [.sc (.int .i64 n)] h v h' ∧ h' = h ∧ v = .sc (tb (Lib.itoa n)) :=
  ⟨_, _, Cal.hook (g := itoaHook) rfl (by simp only [itoaHook]; rw [if_pos hn]), rfl, rfl⟩
end Go.Proofs.YtehnalbdfnmphaaDoor



namespace Go.Proofs.YtehnalbdfnmphaaDoor
open Go.Ab
/-- The reference's Valid, at the hooks in use. -/
theorem valR (h0 : Heap) (s m : SV) (l : Int) (xs ms : List Int) (hx : IsInts h0 s xs) (hs : IsInts h0 m ms) : ∃ v h', Cal FT HKt 13 [.agg [s, m, .int .i64 l]] h0 v h' ∧ Ext h0 h' ∧ ∃ b, v = .sc (.bool b) ∧ (b = true ↔ PV xs ms l) :=
  call13 rfl rfl rfl rfl rfl rfl h0 s m l xs ms hx hs
theorem valR_T {h0 : Heap} {s m : SV} {l : Int} {xs ms : List Int} (hx : IsInts h0 s xs) (hs : IsInts h0 m ms) (hV : PV xs ms l) : ∃ v h', Cal FT HKt 13 [.agg [s, m, .int .i64 l]] h0 v h' ∧ Ext h0 h' ∧ v = .sc (.bool true) := by
  obtain ⟨v, h', a, b, c, rfl, d⟩ := valR h0 s m l xs ms hx hs
  exact ⟨_, h', a, b, by rw [d.2 hV]⟩
theorem valR_F {h0 : Heap} {s m : SV} {l : Int} {xs ms : List Int} (hx : IsInts h0 s xs) (hs : IsInts h0 m ms) (hV : ¬ PV xs ms l) : ∃ v h', Cal FT HKt 13 [.agg [s, m, .int .i64 l]] h0 v h' ∧ Ext h0 h' ∧ v = .sc (.bool false) := by
  obtain ⟨v, h', a, b, c, rfl, d⟩ := valR h0 s m l xs ms hx hs
  cases c with
  | false => exact ⟨_, h', a, b, rfl⟩
  | true => exact absurd (d.1 rfl) hV
end Go.Proofs.YtehnalbdfnmphaaDoor




namespace Go.Proofs.YtehnalbdfnmphaaDoor
open Go.Ab
set_option linter.unusedVariables false
set_option linter.unusedSimpArgs false
set_option maxRecDepth 20000
set_option maxHeartbeats 4000000
attribute [local irreducible] wOps wA wSeq wBlk wRound wRoundI wOpsD
variable {HK : FuncId → Option Hook}

theorem call39 (hk : HK 39 = none) (h0 : Heap) (x : Int) (s : Nat) (hs : s < 4) :
    ∃ v h', Cal FT HK 39 [.sc (.int .i64 x), .sc (.int .i64 (s : Nat))] h0 v h' ∧ IsB (outS x s) h0 v h' := by
  refine Cal.of (F := a39) hk rfl rfl ?_
  have h4 : s = 0 ∨ s = 1 ∨ s = 2 ∨ s = 3 := by omega
  rcases h4 with rfl | rfl | rfl | rfl
  · repeat' (first | refine w_seq ?_ | refine w_seqN ?_ | refine w_ret ?_ | refine w_ops ?_ | ((refine i_nil ?_); first | refine w_end1 rfl ?_ | refine w_end2 rfl rfl ?_) | ((refine i_cons ?_); first | refine k_skip rfl ?_ | refine k_want rfl ?_ | refine k_mv rfl ?_ | refine k_pickF rfl rfl ?_ | refine k_eqlF rfl rfl (by omega) ?_))
    exact ⟨.inr rfl, rfl, rfl⟩
  · by_cases hx : x = 1
    · repeat' (first | refine w_seq ?_ | refine w_seqN ?_ | refine w_ret ?_ | refine w_ops ?_ | ((refine i_nil ?_); first | refine w_end1 rfl ?_ | refine w_end2 rfl rfl ?_) | ((refine i_cons ?_); first | refine k_skip rfl ?_ | refine k_skipU rfl ?_ | refine k_want rfl ?_ | refine k_mv rfl ?_ | refine k_pickT rfl rfl ?_ | refine k_pickF rfl rfl ?_ | refine k_eqlT rfl rfl (by omega) ?_ | refine k_eqlF rfl rfl (by omega) ?_))
      exact ⟨.inr rfl, by subst hx; rfl, rfl⟩
    · have : outS x 1 = false := by simp [outS, hx]
      rw [this]
      repeat' (first | refine w_seq ?_ | refine w_seqN ?_ | refine w_ret ?_ | refine w_ops ?_ | ((refine i_nil ?_); first | refine w_end1 rfl ?_ | refine w_end2 rfl rfl ?_) | ((refine i_cons ?_); first | refine k_skip rfl ?_ | refine k_want rfl ?_ | refine k_mv rfl ?_ | refine k_pickT rfl rfl ?_ | refine k_pickF rfl rfl ?_ | refine k_eqlT rfl rfl (by omega) ?_ | refine k_eqlF rfl rfl (by omega) ?_))
      exact ⟨.inr rfl, rfl, rfl⟩
  · have : outS x 2 = true := by simp [outS]
    rw [this]
    repeat' (first | refine w_seq ?_ | refine w_seqN ?_ | refine w_ret ?_ | refine w_ops ?_ | ((refine i_nil ?_); first | refine w_end1 rfl ?_ | refine w_end2 rfl rfl ?_) | ((refine i_cons ?_); first | refine k_skip rfl ?_ | refine k_skipU rfl ?_ | refine k_mv rfl ?_ | refine k_pickT rfl rfl ?_ | refine k_eqlT rfl rfl (by omega) ?_))
    exact ⟨.inr rfl, rfl, rfl⟩
  · by_cases hx : x = -1
    · repeat' (first | refine w_seq ?_ | refine w_seqN ?_ | refine w_ret ?_ | refine w_ops ?_ | ((refine i_nil ?_); first | refine w_end1 rfl ?_ | refine w_end2 rfl rfl ?_) | ((refine i_cons ?_); first | refine k_skip rfl ?_ | refine k_want rfl ?_ | refine k_mv rfl ?_ | refine k_pickT rfl rfl ?_ | refine k_pickF rfl rfl ?_ | refine k_eqlT rfl rfl (by omega) ?_ | refine k_eqlF rfl rfl (by omega) ?_))
      exact ⟨.inr rfl, by subst hx; rfl, rfl⟩
    · have : outS x 3 = false := by simp [outS, hx]
      rw [this]
      repeat' (first | refine w_seq ?_ | refine w_seqN ?_ | refine w_ret ?_ | refine w_ops ?_ | ((refine i_nil ?_); first | refine w_end1 rfl ?_ | refine w_end2 rfl rfl ?_) | ((refine i_cons ?_); first | refine k_skip rfl ?_ | refine k_want rfl ?_ | refine k_mv rfl ?_ | refine k_pickT rfl rfl ?_ | refine k_pickF rfl rfl ?_ | refine k_eqlT rfl rfl (by omega) ?_ | refine k_eqlF rfl rfl (by omega) ?_))
      exact ⟨.inr rfl, rfl, rfl⟩

end Go.Proofs.YtehnalbdfnmphaaDoor

