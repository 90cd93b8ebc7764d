/- The reference's Of. -/
import Derived.Test.YtleoalcbgpjieaaDoorGA
import Derived.Test.YtleoalcbgpjieaaDoorVF
namespace Go.Proofs.YtleoalcbgpjieaaDoor
open Go.Ab
set_option linter.unusedVariables false
set_option linter.unusedSimpArgs false
set_option maxRecDepth 20000
set_option maxHeartbeats 4000000
attribute [local irreducible] wOps wA wSeq wBlk wRound wOpsD

section
variable {FT : FuncId → Option AFun} {HK : FuncId → Option Hook} {E : Env} {h h0 : Heap} {K : Env → Heap → Prop} {d : Option Nat} {r : List AOp} {x y xo so : AO}
theorem k_bsl2x {a b z0 z1 : SV} (hx : ev E xo = some (.agg [a, b])) (hw : wOps FT HK r (bindE d (some (.sc (.slc h.length 0 1 (some 1)))) E) (h ++ [.cells [a, b] true 2]) K) : wOps FT HK (⟨d, .bsl 2 [z0, z1] 1 [(0, xo)], none⟩ :: r) E h K := by
  refine op_ok (v := some (.sc (.slc h.length 0 1 (some 1)))) (h' := h ++ [.cells [a, b] true 2]) rfl rfl ?_ hw
  simp [step1, evParts, hx, AV.cells, fillA, rep, splice, ez2]
theorem k_app2x {n bytes : Nat} {s a b : SV} {cs z2 : List SV} (he : Ext h0 h) (ho : Own2 h0 h s n cs) (hs : evS E so = some s) (hy : evS E y = some (.slc h.length 0 1 (some 1))) (hb : (n + 1) * (bytes + 1) ≤ bigN)
    (hw : ∀ s' h', Own2 h0 h' s' (n + 1) (cs ++ [a, b]) → Ext h0 h' → wOps FT HK r (bindE d (some (.sc s')) E) h' K) : wOps FT HK (⟨d, .app 2 bytes z2 so y, none⟩ :: r) E (h ++ [.cells [a, b] true 2]) K := by
  obtain ⟨s', h', h1, h2, h3⟩ := push2 (bytes := bytes) he ho hb a b
  refine op_ok (v := some (.sc s')) (h' := h') rfl rfl ?_ (hw s' h' h2 h3)
  have e2 : srcCells (h ++ [Blk.cells [a, b] true 2]) 2 (.slc h.length 0 1 (some 1)) = some (1, [a, b]) := by simp [srcCells, readN, cut]
  simp only [step1, hs, hy, Option.bind_some, ez2, e2, h1, Option.map_some]
end
def I14v (hb : Heap) (qr qo : Nat) (o : SV) (i : Nat) (L : List Nat) (E : Env) (h : Heap) : Prop := ∃ (k : Nat) (u : SV), k ≤ L.length ∧ Ext hb h ∧ Own2 hb h u k (vcs ((visL L).take k)) ∧
  E = [(2, some (.sc (.ptr qr 0))), (3, some (.sc (.ptr qo 0))), (4, some (.sc o)), (5, some (.sc (.int .i64 (i : Nat)))), (6, some (.sc u)), (7, some (.sc (.int .i64 (k : Nat))))]
def R14v (hb : Heap) (qr qo : Nat) (o : SV) (i : Nat) (L : List Nat) (ex : Ex) (E : Env) (h : Heap) : Prop := ex = .ex 2 ∧ Ext hb h ∧ ∃ u a b, Own2 hb h u (visL L).length (vcs (visL L)) ∧
  E = [(2, some (.sc (.ptr qr 0))), (3, some (.sc (.ptr qo 0))), (4, some (.sc o)), (5, some (.sc (.int .i64 (i : Nat)))), (6, some (.sc u)), (7, a), (29, b)]
def I14c (h0 H : Heap) (qr qo : Nat) (o S : SV) (l : Int) (Ls : List (List Nat)) (E : Env) (h : Heap) : Prop := ∃ (i : Nat) (Y : SV), i ≤ Ls.length ∧ Po h0 H h qo Y S l ((codeC Ls).take i) ∧
  E = [(2, some (.sc (.ptr qr 0))), (3, some (.sc (.ptr qo 0))), (4, some (.sc o)), (5, some (.sc (.int .i64 (i : Nat))))]
def R14c (h0 H : Heap) (qr qo : Nat) (S : SV) (l : Int) (Ls : List (List Nat)) (ex : Ex) (E : Env) (h : Heap) : Prop := ex = .ex 0 ∧ ∃ Y a b c, Po h0 H h qo Y S l (codeC Ls) ∧
  E = [(2, some (.sc (.ptr qr 0))), (3, some (.sc (.ptr qo 0))), (4, a), (5, b), (20, c)]
end Go.Proofs.YtleoalcbgpjieaaDoor


namespace Go.Proofs.YtleoalcbgpjieaaDoor
open Go.Ab
set_option linter.unusedVariables false
set_option linter.unusedSimpArgs false
set_option maxRecDepth 20000
set_option maxHeartbeats 4000000
attribute [local irreducible] wOps wA wSeq wBlk wRound wRoundI wOpsD wOpsS

/-- While Diagram runs. -/
structure St23 (hb h : Heap) (q3 : Nat) (s' t : SV) (l : Int) (A : List Int) : Prop where
  e : Ext hb h
  o : Own hb h t (ints A)
  c : Cel3 h q3 s' t (.int .i64 l)
  n : NotAt t q3
theorem St23.ext {hb h h' : Heap} {q3 : Nat} {s' t : SV} {l : Int} {A : List Int} (s : St23 hb h q3 s' t l A) (e : Ext h h') : St23 hb h' q3 s' t l A := ⟨s.e.trans e, s.o.ext e, s.c.ext e, s.n⟩
theorem St23.put {hb h : Heap} {q3 : Nat} {s' t : SV} {l : Int} {A : List Int} (s : St23 hb h q3 s' t l A) {i : Nat} (hi : i < A.length) (x : Nat) :
    ∃ id cap h3, t = .slc id 0 A.length cap ∧ writeN h id (0 + i * 1) [.int .i64 (x : Nat)] = some h3 ∧ St23 hb h3 q3 s' t l (A.set i (x : Nat)) := by
  obtain ⟨id, cap, h3, e3, w3, o3, x3, f3, -⟩ := Own.wr s.e s.o (i := i) (by simpa using hi) (.int .i64 (x : Nat))
  refine ⟨id, cap, h3, by simpa using e3, w3, x3, ?_, (f3 _ _ s.c s.n).1, s.n⟩
  have : ints (A.set i (x : Nat)) = (ints A).set i (.int .i64 (x : Nat)) := by simp [ints, List.map_set]
  rw [this]; exact o3
def I23v (hb : Heap) (b q2 q3 : Nat) (s' t cs : SV) (l : Int) (i : Nat) (S : List Int) (c : List Vis) (A : List Int) (E : Env) (h : Heap) : Prop := ∃ k : Nat, k ≤ c.length ∧ St23 hb h q3 s' t l (mtC S c k A) ∧
  E.keep [1, 2, 3, 4, 5, 6] = [(1, some (.sc (.ptr b 0))), (2, some (.sc (.ptr q2 0))), (3, some (.sc (.ptr q3 0))), (4, some (.sc (.int .i64 (i : Nat)))), (5, some (.sc cs)), (6, some (.sc (.int .i64 (k : Nat))))]
def R23v (hb : Heap) (b q2 q3 : Nat) (s' t cs : SV) (l : Int) (i : Nat) (S : List Int) (c : List Vis) (A : List Int) (ex : Ex) (E : Env) (h : Heap) : Prop := ex = .ex 2 ∧ St23 hb h q3 s' t l (mtC S c c.length A) ∧ ∃ x y,
  E = [(1, some (.sc (.ptr b 0))), (2, some (.sc (.ptr q2 0))), (3, some (.sc (.ptr q3 0))), (4, some (.sc (.int .i64 (i : Nat)))), (5, some (.sc cs)), (6, x), (38, y)]
def cKK (ks : List Nat) (n t : Nat) (E : Env) (_ : Heap) : Nat := match (E.keep ks).get t with
  | some (.sc (.int _ i)) => n - i.toNat
  | _ => 0
def I23c (hb : Heap) (b q2 q3 : Nat) (s' t : SV) (l : Int) (S : List Int) (C : List (List Vis)) (E : Env) (h : Heap) : Prop := ∃ i : Nat, i ≤ C.length ∧ St23 hb h q3 s' t l (mtG S C i) ∧
  E.keep [1, 2, 3, 4] = [(1, some (.sc (.ptr b 0))), (2, some (.sc (.ptr q2 0))), (3, some (.sc (.ptr q3 0))), (4, some (.sc (.int .i64 (i : Nat))))]
def R23c (hb : Heap) (q2 q3 : Nat) (s' t : SV) (l : Int) (S : List Int) (C : List (List Vis)) (ex : Ex) (E : Env) (h : Heap) : Prop := ex = .ex 0 ∧ St23 hb h q3 s' t l (mtG S C C.length) ∧ ∃ u x y,
  E = [(1, u), (2, some (.sc (.ptr q2 0))), (3, some (.sc (.ptr q3 0))), (4, x), (27, y)]
end Go.Proofs.YtleoalcbgpjieaaDoor

