/- The reference's Valid: its contract. -/
import Derived.Test.YtleoalcbgpjieaaDoorV7
namespace Go.Proofs.YtleoalcbgpjieaaDoor
open Go.Ab
set_option linter.unusedVariables false
set_option linter.unusedSimpArgs false
set_option maxRecDepth 20000
set_option maxHeartbeats 4000000
attribute [local irreducible] wOps wA wSeq wBlk wRound wRoundI wOpsD
variable {HK : FuncId → Option Hook}

theorem oK_t {E : Env} {h : Heap} {t : Nat} {v : SV} {Q : AV → Prop} (hE : E.get t = some (.sc v)) (hQ : Q (.sc v)) : oK (resultsA [.t t] E h) Q := by
  have : resultsA [.t t] E h = some (.sc v) := by simp only [resultsA, resOne, hE, Option.bind_some, AV.pv, Option.map_some, PV.av]
  rw [this]; exact hQ

def I11m (h0 : Heap) (s m : SV) (l : Int) (xs ms : List Int) (E : Env) (h : Heap) : Prop := h = DB h0 s m l ∧ ∃ i : Nat, i ≤ ms.length ∧ (∀ j, j < i → MateAt xs ms j) ∧
  E = [(1, some (.sc (.ptr h0.length 0))), (3, some (.sc (.int .i64 (xs.length : Nat)))), (5, some (.sc (.int .i64 (i : Nat))))]
def R11m (h0 : Heap) (s m : SV) (l : Int) (xs ms : List Int) (ex : Ex) (E : Env) (h : Heap) : Prop := h = DB h0 s m l ∧ match ex with
  | .rt => E = [(2, some (.sc (.bool false)))] ∧ ¬ MatesOk xs ms
  | .ex z => z = 2 ∧ MatesOk xs ms ∧ ∃ a f, E = [(1, some (.sc (.ptr h0.length 0))), (3, some (.sc (.int .i64 (xs.length : Nat)))), (5, a), (59, f)]
  | .nm => False
theorem DB_at (h0 : Heap) (s m : SV) (l : Int) : Blk.At (DB h0 s m l) h0.length [s, m, .int .i64 l] := Blk.At.last h0 _ true 0
theorem DB_ext (h0 : Heap) (s m : SV) (l : Int) : Ext h0 (DB h0 s m l) := ⟨_, rfl⟩
end Go.Proofs.YtleoalcbgpjieaaDoor
