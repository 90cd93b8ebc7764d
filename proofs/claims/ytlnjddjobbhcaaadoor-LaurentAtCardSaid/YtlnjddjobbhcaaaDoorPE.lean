/- Equal: contracts. -/
import Derived.Test.YtlnjddjobbhcaaaDoorPN
namespace Go.Proofs.YtlnjddjobbhcaaaDoor
open Go.Ab
set_option linter.unusedVariables false
set_option linter.unusedSimpArgs false
set_option maxRecDepth 20000
set_option maxHeartbeats 4000000
attribute [local irreducible] wOps wA wSeq wBlk wRound wRoundI wOpsD wOpsS

def I46 (h0 : Heap) (s t : SV) (a b : List Tm) (E : Env) (h : Heap) : Prop := h = h0 ∧ ∃ i : Nat, i ≤ a.length ∧ a.take i = b.take i ∧
  E.keep [0, 1, 12, 13] = [(0, some (.sc s)), (1, some (.sc t)), (12, some (.sc (.int .i64 (a.length : Nat)))), (13, some (.sc (.int .i64 (i : Nat))))]
def R46 (h0 : Heap) (a b : List Tm) (ex : Ex) (E : Env) (h : Heap) : Prop := h = h0 ∧ ((ex = .ex 0 ∧ a = b) ∨ (ex = .rt ∧ a ≠ b ∧ E = [(4, some (.sc (.bool false)))]))
end Go.Proofs.YtlnjddjobbhcaaaDoor
