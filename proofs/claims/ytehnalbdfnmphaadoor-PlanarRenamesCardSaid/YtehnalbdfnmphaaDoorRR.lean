/- The law PlanarReturns, reckoned. -/
import Derived.Test.YtehnalbdfnmphaaDoorRP2
import Derived.Test.YtehnalbdfnmphaaDoorEQ
import Derived.Test.YtehnalbdfnmphaaDoorF4
import Derived.Test.YtehnalbdfnmphaaDoorT5
namespace Go.Proofs.YtehnalbdfnmphaaDoor
open Go.Ab
set_option linter.unusedVariables false
set_option linter.unusedSimpArgs false
set_option maxRecDepth 20000
set_option maxHeartbeats 4000000
attribute [local irreducible] wOps wA wSeq wBlk wRound wRoundI wOpsD

theorem parse_ok {h : Heap} {s : List UInt8} {xs ms : List Int} {l : Nat} (hp : parR s = .ok xs ms l) : ∃ v h', Cal FT HKt 22 [.sc (tb s)] h v h' ∧ h' = h ++ [EX xs, EX ms] ∧
    v = .tup [.agg [.slc (h.length + 0) 0 xs.length (some xs.length), .slc (h.length + 1) 0 ms.length (some ms.length), .int .i64 (l : Nat)], .sc (.int .i64 0)] :=
  ⟨_, _, Cal.hook (g := parseHook) rfl (by
    have e : (tb s : SV) = .str ⟨s.toArray⟩ := rfl
    simp only [parseHook, e, tb_data, hp]), rfl, rfl⟩
theorem parse_err {h : Heap} {s : List UInt8} {e : Nat} (hp : parR s = .err e) : ∃ v h', Cal FT HKt 22 [.sc (tb s)] h v h' ∧ h' = h ∧ v = .tup [.agg [.nilS, .nilS, .int .i64 0], .sc (.int .i64 (e : Nat))] :=
  ⟨_, _, Cal.hook (g := parseHook) rfl (by
    have e : (tb s : SV) = .str ⟨s.toArray⟩ := rfl
    simp only [parseHook, e, tb_data, hp]), rfl, rfl⟩
theorem labs_R {xs ms : List Int} {l : Int} (hF : Front xs ms l) : LabR (labs xs ms) (4 * xs.length) := fun g hg => by
  have := labs_range hF (g := g) (by rw [hF.four]; exact hg)
  omega
theorem labs_len {xs ms : List Int} {l : Int} (hF : Front xs ms l) : (labs xs ms).length = 4 * xs.length := by
  rw [← hF.four]; exact lbK_len _ _ _
theorem txt_len {xs ms : List Int} {l : Int} (hF : Front xs ms l) : (txt xs (labs xs ms) l).length ≤ 65536 := by
  have h1 := txtK_len (xs := xs) (labs_mod hF) xs.length
  have h2 := itoa_len (x := l) (by have := hF.l0; have := hF.l64; omega)
  have h3 := hF.n64
  unfold txt
  simp only [List.length_append, List.length_cons, List.length_nil, loopsT]
  omega
end Go.Proofs.YtehnalbdfnmphaaDoor
