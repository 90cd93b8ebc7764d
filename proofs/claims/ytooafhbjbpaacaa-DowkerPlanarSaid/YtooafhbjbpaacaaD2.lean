/- The reference's Drawn, Ints, Equal: contracts. -/
import Derived.Test.YtooafhbjbpaacaaD1
namespace Go.Proofs.Ytooafhbjbpaacaa
open Go.Ab
set_option linter.unusedVariables false
set_option linter.unusedSimpArgs false
set_option maxRecDepth 20000
set_option maxHeartbeats 4000000
attribute [local irreducible] wOps wA wSeq wBlk wRound wRoundI wOpsD wOpsS
variable {HK : FuncId → Option Hook}

def I22a (hb : Heap) (s o A B : SV) (q q6 : Nat) (vs xs : List Int) (E : Env) (h : Heap) : Prop := ∃ i : Nat, i ≤ vs.length ∧ Two hb h A B (inD vs xs i) (outD vs xs i) ∧
  E = [(0, some (.sc o)), (1, some (.sc s)), (4, some (.sc (.ptr q 0))), (5, some (.sc (.int .i64 (vs.length : Nat)))), (6, some (.sc (.ptr q6 0))), (7, some (.sc A)), (8, some (.sc B)), (9, some (.sc (.int .i64 (i : Nat))))]
def R22a (hb : Heap) (A B : SV) (q q6 : Nat) (vs xs : List Int) (ex : Ex) (E : Env) (h : Heap) : Prop := ex = .ex 0 ∧ Two hb h A B (inD vs xs vs.length) (outD vs xs vs.length) ∧ ∃ a b c d,
  E = [(0, a), (1, b), (4, some (.sc (.ptr q 0))), (5, some (.sc (.int .i64 (vs.length : Nat)))), (6, some (.sc (.ptr q6 0))), (7, some (.sc A)), (8, some (.sc B)), (9, c), (32, d)]
/-- Memory while the mates are laid. -/
structure Mb (hM h : Heap) (q : Nat) (t M A B : SV) (I O X : List Int) : Prop where
  e : Ext hM h
  c : Cel3 h q t M (.int .i64 0)
  m : Own hM h M (ints X)
  nq : NotAt M q
  a : IsInts h A I
  b : IsInts h B O
  aa : Ab.Apart M A
  ab : Ab.Apart M B
theorem Mb.set {hM h : Heap} {q : Nat} {t M A B : SV} {I O X : List Int} (s : Mb hM h q t M A B I O X) {i : Nat} (hi : i < X.length) (v : Int) : ∃ id cap h', M = .slc id 0 X.length cap ∧ writeN h id (0 + i * 1) [.int .i64 v] = some h' ∧ h'[q]? = h[q]? ∧ Mb hM h' q t M A B I O (X.set i v) := by
  obtain ⟨id, cap, h2, es, w2, o2, e2, f2, l2⟩ := Own.wr s.e s.m (i := i) (by simpa [ints] using hi) (.int .i64 v)
  have hc := (f2 _ _ s.c s.nq).1
  have hc0 : h[q]? = _ := s.c
  refine ⟨id, cap, h2, by rw [es]; simp [ints], w2, by rw [hc, hc0], e2, hc, ?_, s.nq, IsSl.away s.a f2 s.aa, IsSl.away s.b f2 s.ab, s.aa, s.ab⟩
  simpa [ints, List.map_set] using o2
def I22b (hM : Heap) (t M A B : SV) (q q6 : Nat) (vs xs : List Int) (E : Env) (h : Heap) : Prop := ∃ k : Nat, k ≤ 2 * vs.length ∧ Mb hM h q6 t M A B (inD vs xs vs.length) (outD vs xs vs.length) (mtT vs.length (inD vs xs vs.length) (outD vs xs vs.length) k) ∧
  E = [(4, some (.sc (.ptr q 0))), (5, some (.sc (.int .i64 (vs.length : Nat)))), (6, some (.sc (.ptr q6 0))), (7, some (.sc A)), (8, some (.sc B)), (12, some (.sc (.int .i64 (k : Nat))))]
def R22b (hM : Heap) (t M A B : SV) (q q6 : Nat) (vs xs : List Int) (ex : Ex) (E : Env) (h : Heap) : Prop := ex = .ex 2 ∧ Mb hM h q6 t M A B (inD vs xs vs.length) (outD vs xs vs.length) (mtD vs xs) ∧ ∃ a b c d e,
  E = [(4, some (.sc (.ptr q 0))), (5, a), (6, some (.sc (.ptr q6 0))), (7, b), (8, c), (12, d), (93, e)]
end Go.Proofs.Ytooafhbjbpaacaa
