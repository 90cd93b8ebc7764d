/- diagram.Renumber. -/
import Derived.Test.YtleoalcbgpjieaaDoorC3
import Derived.Test.YtleoalcbgpjieaaDoorGC
namespace Go.Proofs.YtleoalcbgpjieaaDoor
open Go.Ab
set_option linter.unusedVariables false
set_option linter.unusedSimpArgs false
set_option maxRecDepth 20000
set_option maxHeartbeats 4000000
attribute [local irreducible] wOps wA wSeq wBlk wRound wRoundI wOpsD

/-! ### A list that is filled -/
def fillP (L : List Int) (k : Nat) : List Int := L.take k ++ List.replicate (L.length - k) 0
theorem fillP_len {L : List Int} {k : Nat} (hk : k ≤ L.length) : (fillP L k).length = L.length := by simp [fillP]; omega
theorem fillP_zero (L : List Int) : fillP L 0 = List.replicate L.length 0 := by simp [fillP]
theorem fillP_all (L : List Int) : fillP L L.length = L := by simp [fillP]
theorem fillP_set {L : List Int} {k : Nat} {x : Int} (hx : L[k]? = some x) : (fillP L k).set k x = fillP L (k + 1) := by
  have hk := (List.getElem?_eq_some_iff.1 hx).1
  unfold fillP
  have hl : (L.take k).length = k := by simp; omega
  rw [take_snoc hx, show L.length - k = (L.length - (k + 1)) + 1 by omega, List.replicate_succ, List.set_append_right _ _ (by omega), hl, Nat.sub_self, List.set_cons_zero, List.append_assoc]
  rfl

/-! ### The numbers: none yet -/
def I26a (hb : Heap) (o t : SV) (d q n : Nat) (E : Env) (h : Heap) : Prop := ∃ i : Nat, i ≤ n ∧ Ext hb h ∧ Own hb h t (ints (List.replicate i (-1) ++ List.replicate (n - i) 0)) ∧
  E = [(1, some (.sc o)), (2, some (.sc (.ptr d 0))), (4, some (.sc (.ptr q 0))), (6, some (.sc (.int .i64 (n : Nat)))), (7, some (.sc t)), (31, some (.sc (.int .i64 (n : Nat)))), (32, some (.sc (.int .i64 (i : Nat))))]
def R26a (hb : Heap) (o t : SV) (d q n : Nat) (ex : Ex) (E : Env) (h : Heap) : Prop := ex = .ex 0 ∧ Ext hb h ∧ Own hb h t (ints (List.replicate n (-1))) ∧ ∃ a b c,
  E = [(1, some (.sc o)), (2, some (.sc (.ptr d 0))), (4, some (.sc (.ptr q 0))), (6, some (.sc (.int .i64 (n : Nat)))), (7, some (.sc t)), (31, a), (32, b), (33, c)]
theorem rep_next {n i : Nat} (hi : i < n) : (List.replicate i (-1 : Int) ++ List.replicate (n - i) 0).set i (-1) = List.replicate (i + 1) (-1) ++ List.replicate (n - (i + 1)) 0 := by
  have hl : (List.replicate i (-1 : Int)).length = i := by simp
  rw [show n - i = (n - (i + 1)) + 1 by omega, List.replicate_succ, List.set_append_right _ _ (by omega), hl, Nat.sub_self, List.set_cons_zero, List.replicate_succ' (n := i), List.append_assoc]
  rfl
/-! ### The numbers of the order -/
def I26b (hb : Heap) (o t : SV) (d q n : Nat) (os : List Int) (E : Env) (h : Heap) : Prop := ∃ i : Nat, i ≤ os.length ∧ Ext hb h ∧ Own hb h t (ints (numT (-1) n os i)) ∧ OrdT os n i ∧
  E = [(1, some (.sc o)), (2, some (.sc (.ptr d 0))), (4, some (.sc (.ptr q 0))), (6, some (.sc (.int .i64 (n : Nat)))), (7, some (.sc t)), (39, some (.sc o)), (40, some (.sc (.int .i64 (os.length : Nat)))), (41, some (.sc (.int .i64 (i : Nat))))]
def R26b (h0 hb : Heap) (o t : SV) (d q n : Nat) (os : List Int) (ex : Ex) (E : Env) (h : Heap) : Prop := match ex with
  | .rt => E = [(4, some (.sc (.ptr q 0))), (5, some (.sc (.int .i64 2)))] ∧ Ext h0 h ∧ Cel3 h q .nilS .nilS (.int .i64 0)
  | .ex z => z = 2 ∧ Ext hb h ∧ Own hb h t (ints (numT (-1) n os os.length)) ∧ OrdT os n os.length ∧ ∃ a b c e,
      E = [(1, some (.sc o)), (2, some (.sc (.ptr d 0))), (4, some (.sc (.ptr q 0))), (6, some (.sc (.int .i64 (n : Nat)))), (7, some (.sc t)), (39, a), (40, b), (41, c), (42, e)]
  | .nm => False
theorem ord_next {os : List Int} {n i : Nat} {x : Int} (h : OrdT os n i) (hx : os[i]? = some x) (hr : 0 ≤ x ∧ x < (n : Int)) (hn : ∀ j, j < i → os[j]? ≠ some x) : OrdT os n (i + 1) := by
  refine ⟨fun j y hj hy => ?_, fun j k y hj hk e1 e2 => ?_⟩
  · by_cases he : j = i
    · subst he
      rw [hx] at hy
      obtain rfl := Option.some.inj hy
      exact hr
    · exact h.1 j y (by omega) hy
  · by_cases he : j = i
    · by_cases he2 : k = i
      · omega
      · subst he
        rw [hx] at e1
        obtain rfl := Option.some.inj e1
        exact absurd e2 (hn k (by omega))
    · by_cases he2 : k = i
      · subst he2
        rw [hx] at e2
        obtain rfl := Option.some.inj e2
        exact absurd e1 (hn j (by omega))
      · exact h.2 j k y (by omega) (by omega) e1 e2
/-! ### The diagram in the order -/
structure St26 (hb h : Heap) (q : Nat) (S M : SV) (l : Int) (X Y : List Int) : Prop where
  e : Ext hb h
  c : Cel3 h q S M (.int .i64 l)
  x : Own hb h S (ints X)
  y : Own hb h M (ints Y)
  ap : Ab.Apart S M
  nx : NotAt S q
  ny : NotAt M q
section
variable {hb h : Heap} {q : Nat} {S M : SV} {l : Int} {X Y : List Int}
theorem St26.setX (s : St26 hb h q S M l X Y) {i : Nat} (hi : i < X.length) (v : Int) : ∃ id cap h', S = .slc id 0 X.length cap ∧ writeN h id (0 + i * 1) [.int .i64 v] = some h' ∧ St26 hb h' q S M l (X.set i v) Y := by
  obtain ⟨id, cap, h2, es, w2, o2, e2, f2, l2⟩ := Own.wr s.e s.x (i := i) (by simpa [ints] using hi) (.int .i64 v)
  refine ⟨id, cap, h2, by rw [es]; simp [ints], w2, e2, (f2 _ _ s.c s.nx).1, ?_, Own.away s.y f2 s.ap, s.ap, s.nx, s.ny⟩
  simpa [ints, List.map_set] using o2
theorem St26.setY (s : St26 hb h q S M l X Y) {i : Nat} (hi : i < Y.length) (v : Int) : ∃ id cap h', M = .slc id 0 Y.length cap ∧ writeN h id (0 + i * 1) [.int .i64 v] = some h' ∧ St26 hb h' q S M l X (Y.set i v) := by
  obtain ⟨id, cap, h2, es, w2, o2, e2, f2, l2⟩ := Own.wr s.e s.y (i := i) (by simpa [ints] using hi) (.int .i64 v)
  refine ⟨id, cap, h2, by rw [es]; simp [ints], w2, e2, (f2 _ _ s.c s.ny).1, Own.away s.x f2 s.ap.symm, ?_, s.ap, s.nx, s.ny⟩
  simpa [ints, List.map_set] using o2
end
/-- What is read. -/
structure Rd26 (hb : Heap) (d : Nat) (s m t : SV) (l : Int) (xs ms os : List Int) : Prop where
  b : Blk.At hb d [s, m, .int .i64 l]
  s : IsInts hb s xs
  m : IsInts hb m ms
  t : IsInts hb t (numT (-1) xs.length os xs.length)
  F : Front xs ms l
  p : PermO os xs.length
def I26d (hb : Heap) (o t S M : SV) (l : Int) (d q q2 i : Nat) (c : Int) (xs ms os : List Int) (E : Env) (h : Heap) : Prop := ∃ k : Nat, k ≤ 4 ∧ St26 hb h q2 S M l (fillP (rnX os xs) (i + 1)) (fillP (rnMs os ms xs.length) (4 * i + k)) ∧
  E = [(2, some (.sc (.ptr d 0))), (4, some (.sc (.ptr q 0))), (7, some (.sc t)), (11, some (.sc (.ptr q2 0))), (12, some (.sc (.int .i64 (i : Nat)))), (13, some (.sc (.int .i64 c))), (74, some (.sc o)), (75, some (.sc (.int .i64 (xs.length : Nat)))), (76, some (.sc (.int .i64 (i : Nat)))), (90, some (.sc (.int .i64 (k : Nat))))]
def R26d (hb : Heap) (o t S M : SV) (l : Int) (d q q2 i : Nat) (xs ms os : List Int) (ex : Ex) (E : Env) (h : Heap) : Prop := ex = .ex 6 ∧ St26 hb h q2 S M l (fillP (rnX os xs) (i + 1)) (fillP (rnMs os ms xs.length) (4 * (i + 1))) ∧ ∃ a b c e,
  E = [(2, some (.sc (.ptr d 0))), (4, some (.sc (.ptr q 0))), (7, some (.sc t)), (11, some (.sc (.ptr q2 0))), (12, a), (13, b), (74, some (.sc o)), (75, some (.sc (.int .i64 (xs.length : Nat)))), (76, some (.sc (.int .i64 (i : Nat)))), (90, c), (91, e)]
end Go.Proofs.YtleoalcbgpjieaaDoor


/- diagram.Renumber: its answer. -/
namespace Go.Proofs.YtleoalcbgpjieaaDoor
open Go.Ab
set_option linter.unusedVariables false
set_option linter.unusedSimpArgs false
set_option maxRecDepth 20000
set_option maxHeartbeats 4000000
attribute [local irreducible] wOps wA wSeq wBlk wRound wRoundI wOpsD

def I26c (hb : Heap) (o t S M : SV) (l : Int) (d q q2 : Nat) (xs ms os : List Int) (E : Env) (h : Heap) : Prop := ∃ i : Nat, i ≤ xs.length ∧ St26 hb h q2 S M l (fillP (rnX os xs) i) (fillP (rnMs os ms xs.length) (4 * i)) ∧
  E = [(2, some (.sc (.ptr d 0))), (4, some (.sc (.ptr q 0))), (7, some (.sc t)), (11, some (.sc (.ptr q2 0))), (74, some (.sc o)), (75, some (.sc (.int .i64 (xs.length : Nat)))), (76, some (.sc (.int .i64 (i : Nat))))]
def R26c (hb : Heap) (S M : SV) (l : Int) (d q q2 : Nat) (xs ms os : List Int) (ex : Ex) (E : Env) (h : Heap) : Prop := ex = .ex 4 ∧ St26 hb h q2 S M l (rnX os xs) (rnMs os ms xs.length) ∧ ∃ a b c e f,
  E = [(2, some (.sc (.ptr d 0))), (4, some (.sc (.ptr q 0))), (7, a), (11, some (.sc (.ptr q2 0))), (74, b), (75, c), (76, e), (77, f)]
/-- What Renumber answers to a valid diagram. -/
def RnR (os xs ms : List Int) (l : Int) (h0 : Heap) (v : AV) (h' : Heap) : Prop := Ext h0 h' ∧ ((PermO os xs.length ∧ ∃ S M, v = .tup [.agg [S, M, .int .i64 l], .sc (.int .i64 0)] ∧ IsInts h' S (rnX os xs) ∧ IsInts h' M (rnMs os ms xs.length)) ∨ v = .tup [.agg [.nilS, .nilS, .int .i64 0], .sc (.int .i64 2)])
end Go.Proofs.YtleoalcbgpjieaaDoor

