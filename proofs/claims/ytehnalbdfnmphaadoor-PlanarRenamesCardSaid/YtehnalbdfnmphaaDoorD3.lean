/- planar.Decode: its loops. -/
import Derived.Test.YtehnalbdfnmphaaDoorD7
namespace Go.Proofs.YtehnalbdfnmphaaDoor
open Go.Ab
set_option linter.unusedVariables false
set_option linter.unusedSimpArgs false
set_option maxRecDepth 20000
set_option maxHeartbeats 4000000
attribute [local irreducible] wOps wA wSeq wBlk wRound wRoundI wOpsD
variable {HK : FuncId → Option Hook}

theorem rdL {L : Heap} {k i : Nat} {es : List Int} (hL : L[k]? = some (EX es)) (hi : i < es.length) {j : Int} (hj : j = (i : Nat)) : readN L k (0 + j.toNat * 1) 1 = some [.int .i64 (es.getD i 0)] := by
  subst hj
  rw [Int.toNat_natCast]
  exact rdI hL (by simp [List.getD, hi])
theorem wrL {L : Heap} {k i : Nat} {es : List Int} (hL : L[k]? = some (EX es)) (hi : i < es.length) {j : Int} (hj : j = (i : Nat)) {x : Int} : writeN L k (0 + j.toNat * 1) [.int .i64 x] = some (L.set k (EX (es.set i x))) := by
  subst hj
  rw [Int.toNat_natCast]
  exact wrI hL hi x
theorem rdB {L : Heap} {k i : Nat} {es : List Bool} (hL : L[k]? = some (SN es)) (hi : i < es.length) {j : Int} (hj : j = (i : Nat)) : readN L k (0 + j.toNat * 1) 1 = some [.bool (es.getD i false)] := by
  subst hj
  rw [Int.toNat_natCast]
  exact rdS hL (by simp [List.getD, hi])
theorem wrB {L : Heap} {k i : Nat} {es : List Bool} (hL : L[k]? = some (SN es)) (hi : i < es.length) {j : Int} (hj : j = (i : Nat)) {x : Bool} : writeN L k (0 + j.toNat * 1) [.bool x] = some (L.set k (SN (es.set i x))) := by
  subst hj
  rw [Int.toNat_natCast]
  rw [wrS hL (by simpa using hi)]
  simp [SN, List.map_set]
theorem exL {h0 L : Heap} {k n : Nat} {es : List Int} (hL : L[k]? = some (EX es)) (hn : es.length = n) : IsInts (h0 ++ L) (.slc (h0.length + k) 0 n (some n)) es := by
  subst hn
  refine .inr ⟨h0.length + k, 0, some es.length, EX es, rfl, by rw [get_app]; exact hL, rfl, fun h => by rw [List.eq_nil_of_length_eq_zero h]; rfl, fun _ => ⟨_, true, rfl, ?_⟩⟩
  unfold cut
  simp only [ESz.one_n]
  rw [if_pos (by simp)]
  simp only [List.drop_zero, Option.some.injEq]
  exact List.take_of_length_le (by simp)

/-- The result's box, and the diagram's. -/
abbrev R0 : Blk := .cells [.nilS, .nilS, .int .i64 0] true 0
abbrev D0 (h0 : Heap) (n : Nat) (l : Int) : Blk := .cells [.slc (h0.length + 1) 0 n (some n), .slc (h0.length + 2) 0 (4 * n) (some (4 * n)), .int .i64 l] true 0

/-! ### The signs -/
def I17a (h0 : Heap) (s : SV) (L : List Nat) (n : Nat) (l : Int) (E : Env) (h : Heap) : Prop := ∃ c : Nat, c ≤ 8 * ((n + 7) / 8) ∧ (∀ i, i < c → n ≤ i → bitN L i ≠ 1) ∧
  h = h0 ++ [R0, EX (sgC L n c), EX (List.replicate (4 * n) 0), D0 h0 n l] ∧
  E = [(0, some (.sc s)), (2, some (.sc (.ptr (h0.length + 0) 0))), (4, some (.sc (.int .i64 (n : Nat)))), (6, some (.sc (.int .i64 (2 + (n + 7) / 8 : Nat)))), (7, some (.sc (.ptr (h0.length + 3) 0))), (62, some (.sc (.int .i64 (8 * ((n + 7) / 8) : Nat)))), (63, some (.sc (.int .i64 (c : Nat))))]
def R17a (h0 : Heap) (s : SV) (L : List Nat) (n : Nat) (l : Int) (ex : Ex) (E : Env) (h : Heap) : Prop := match ex with
  | .rt => ¬ Pad L n ∧ (∃ T, h = h0 ++ R0 :: T) ∧ E = [(2, some (.sc (.ptr (h0.length + 0) 0))), (3, some (.sc (.int .i64 3)))]
  | .ex z => z = 0 ∧ Pad L n ∧ h = h0 ++ [R0, EX (sgs L n), EX (List.replicate (4 * n) 0), D0 h0 n l] ∧ ∃ x y z,
    E = [(0, some (.sc s)), (2, some (.sc (.ptr (h0.length + 0) 0))), (4, some (.sc (.int .i64 (n : Nat)))), (6, some (.sc (.int .i64 (2 + (n + 7) / 8 : Nat)))), (7, some (.sc (.ptr (h0.length + 3) 0))), (62, x), (63, y), (64, z)]
  | .nm => False
/-! ### The mates -/
def I17m (h0 : Heap) (xs : List Int) (T : List Nat) (n : Nat) (l : Int) (E : Env) (h : Heap) : Prop := ∃ (c k : Nat) (ms : List Int) (us : List Bool) (t : SV), c ≤ 4 * n ∧ mt xs (4 * n) T c = some (ms, us, k) ∧ IsBy h0 t (T.drop k) ∧
  h = h0 ++ [R0, EX xs, EX ms, D0 h0 n l, SN us] ∧
  E = [(2, some (.sc (.ptr (h0.length + 0) 0))), (4, some (.sc (.int .i64 (n : Nat)))), (7, some (.sc (.ptr (h0.length + 3) 0))), (10, some (.sc (.slc (h0.length + 4) 0 (4 * n) (some (4 * n))))), (11, some (.sc t)), (98, some (.sc (.int .i64 (4 * n : Nat)))), (99, some (.sc (.int .i64 (c : Nat))))]
def R17m (h0 : Heap) (xs : List Int) (T : List Nat) (n : Nat) (l : Int) (ex : Ex) (E : Env) (h : Heap) : Prop := match ex with
  | .rt => mt xs (4 * n) T (4 * n) = none ∧ (∃ U, h = h0 ++ R0 :: U) ∧ E = [(2, some (.sc (.ptr (h0.length + 0) 0))), (3, some (.sc (.int .i64 3)))]
  | .ex z => z = 2 ∧ ∃ ms us k, mt xs (4 * n) T (4 * n) = some (ms, us, k) ∧ h = h0 ++ [R0, EX xs, EX ms, D0 h0 n l, SN us] ∧ ∃ a b c x y z,
    E = [(2, some (.sc (.ptr (h0.length + 0) 0))), (4, a), (7, some (.sc (.ptr (h0.length + 3) 0))), (10, b), (11, c), (98, x), (99, y), (100, z)]
  | .nm => False
end Go.Proofs.YtehnalbdfnmphaaDoor


namespace Go.Proofs.YtehnalbdfnmphaaDoor
open Go.Ab
set_option linter.unusedVariables false
set_option linter.unusedSimpArgs false
set_option maxRecDepth 20000
set_option maxHeartbeats 4000000
attribute [local irreducible] wOps wA wSeq wBlk wRound wRoundI wOpsD

theorem oK_err {h0 : Heap} {T : Heap} {t u : Nat} {e : Nat} {E : Env} {Q : AV → Prop} (h1 : E.get t = some (.sc (.ptr (h0.length + 0) 0))) (h2 : E.get u = some (.sc (.int .i64 (e : Nat)))) (hQ : Q (.tup [.agg [.nilS, .nilS, .int .i64 0], .sc (.int .i64 (e : Nat))])) :
    oK (resultsA [.cell t 3 true, .t u] E (h0 ++ R0 :: T)) Q :=
  oK_cellt h1 (by rw [rdA]; rfl) h2 hQ

end Go.Proofs.YtehnalbdfnmphaaDoor

