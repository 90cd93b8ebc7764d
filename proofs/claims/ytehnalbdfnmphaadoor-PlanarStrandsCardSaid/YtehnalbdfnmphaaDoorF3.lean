/- The reference's Text. -/
import Derived.Test.YtehnalbdfnmphaaDoorF2
namespace Go.Proofs.YtehnalbdfnmphaaDoor
open Go.Ab
set_option linter.unusedVariables false
set_option linter.unusedSimpArgs false
set_option maxRecDepth 20000
set_option maxHeartbeats 4000000
attribute [local irreducible] wOps wA wSeq wBlk wRound wRoundI wOpsD

def I14k (h1 : Heap) (p u : SV) (xs lb : List Int) (c : Nat) (E : Env) (h : Heap) : Prop := Ext h1 h ∧ ∃ k : Nat, k ≤ 4 ∧
  E = [(1, some (.sc p)), (3, some (.sc u)), (4, some (.sc (tb (txtK xs lb c ++ rowK xs lb c k)))), (5, some (.sc (.int .i64 (c : Nat)))), (6, some (.sc (.int .i64 (k : Nat))))]
def R14k (h1 : Heap) (p u : SV) (xs lb : List Int) (c : Nat) (ex : Ex) (E : Env) (h : Heap) : Prop := Ext h1 h ∧ ex = .ex 2 ∧ ∃ x y,
  E = [(1, some (.sc p)), (3, some (.sc u)), (4, some (.sc (tb (txtK xs lb c ++ rowK xs lb c 4)))), (5, some (.sc (.int .i64 (c : Nat)))), (6, x), (27, y)]
def I14c (h1 : Heap) (p u : SV) (xs lb : List Int) (E : Env) (h : Heap) : Prop := Ext h1 h ∧ ∃ c : Nat, c ≤ xs.length ∧
  E = [(1, some (.sc p)), (3, some (.sc u)), (4, some (.sc (tb (txtK xs lb c)))), (5, some (.sc (.int .i64 (c : Nat))))]
def R14c (h1 : Heap) (p : SV) (xs lb : List Int) (ex : Ex) (E : Env) (h : Heap) : Prop := Ext h1 h ∧ ex = .ex 0 ∧ ∃ a x y,
  E = [(1, some (.sc p)), (3, a), (4, some (.sc (tb (txtK xs lb xs.length)))), (5, x), (13, y)]
end Go.Proofs.YtehnalbdfnmphaaDoor
