/- The reference's Of. -/
import Derived.Test.YtleoalcbgpjieaaDoorGA
namespace Go.Proofs.YtleoalcbgpjieaaDoor
open Go.Ab
set_option linter.unusedVariables false
set_option linter.unusedSimpArgs false
set_option maxRecDepth 20000
set_option maxHeartbeats 4000000
attribute [local irreducible] wOps wA wSeq wBlk wRound wOpsD

section
variable {FT : FuncId → Option AFun} {HK : FuncId → Option Hook} {E : Env} {h h0 : Heap} {K : Env → Heap → Prop} {d : Option Nat} {r : List AOp} {x y xo so : AO}
theorem k_bsl2x {a b z0 z1 : SV} (hx : ev E xo = some (.agg [a, b])) (hw : wOps FT HK r (bindE d (some (.sc (.slc h.length 0 1 (some 1)))) E) (h ++ [.cells [a, b] true 2]) K) : wOps FT HK (⟨d, .bsl 2 [z0, z1] 1 [(0, xo)], none⟩ :: r) E h K := by
  refine op_ok (v := some (.sc (.slc h.length 0 1 (some 1)))) (h' := h ++ [.cells [a, b] true 2]) rfl rfl ?_ hw
  simp [step1, evParts, hx, AV.cells, fillA, rep, splice, ez2]
theorem k_app2x {n bytes : Nat} {s a b : SV} {cs z2 : List SV} (he : Ext h0 h) (ho : Own2 h0 h s n cs) (hs : evS E so = some s) (hy : evS E y = some (.slc h.length 0 1 (some 1))) (hb : (n + 1) * (bytes + 1) ≤ bigN)
    (hw : ∀ s' h', Own2 h0 h' s' (n + 1) (cs ++ [a, b]) → Ext h0 h' → wOps FT HK r (bindE d (some (.sc s')) E) h' K) : wOps FT HK (⟨d, .app 2 bytes z2 so y, none⟩ :: r) E (h ++ [.cells [a, b] true 2]) K := by
  obtain ⟨s', h', h1, h2, h3⟩ := push2 (bytes := bytes) he ho hb a b
  refine op_ok (v := some (.sc s')) (h' := h') rfl rfl ?_ (hw s' h' h2 h3)
  have e2 : srcCells (h ++ [Blk.cells [a, b] true 2]) 2 (.slc h.length 0 1 (some 1)) = some (1, [a, b]) := by simp [srcCells, readN, cut]
  simp only [step1, hs, hy, Option.bind_some, ez2, e2, h1, Option.map_some]
end
def I14v (hb : Heap) (qr qo : Nat) (o : SV) (i : Nat) (L : List Nat) (E : Env) (h : Heap) : Prop := ∃ (k : Nat) (u : SV), k ≤ L.length ∧ Ext hb h ∧ Own2 hb h u k (vcs ((visL L).take k)) ∧
  E = [(2, some (.sc (.ptr qr 0))), (3, some (.sc (.ptr qo 0))), (4, some (.sc o)), (5, some (.sc (.int .i64 (i : Nat)))), (6, some (.sc u)), (7, some (.sc (.int .i64 (k : Nat))))]
def R14v (hb : Heap) (qr qo : Nat) (o : SV) (i : Nat) (L : List Nat) (ex : Ex) (E : Env) (h : Heap) : Prop := ex = .ex 2 ∧ Ext hb h ∧ ∃ u a b, Own2 hb h u (visL L).length (vcs (visL L)) ∧
  E = [(2, some (.sc (.ptr qr 0))), (3, some (.sc (.ptr qo 0))), (4, some (.sc o)), (5, some (.sc (.int .i64 (i : Nat)))), (6, some (.sc u)), (7, a), (29, b)]
def I14c (h0 H : Heap) (qr qo : Nat) (o S : SV) (l : Int) (Ls : List (List Nat)) (E : Env) (h : Heap) : Prop := ∃ (i : Nat) (Y : SV), i ≤ Ls.length ∧ Po h0 H h qo Y S l ((codeC Ls).take i) ∧
  E = [(2, some (.sc (.ptr qr 0))), (3, some (.sc (.ptr qo 0))), (4, some (.sc o)), (5, some (.sc (.int .i64 (i : Nat))))]
def R14c (h0 H : Heap) (qr qo : Nat) (S : SV) (l : Int) (Ls : List (List Nat)) (ex : Ex) (E : Env) (h : Heap) : Prop := ex = .ex 0 ∧ ∃ Y a b c, Po h0 H h qo Y S l (codeC Ls) ∧
  E = [(2, some (.sc (.ptr qr 0))), (3, some (.sc (.ptr qo 0))), (4, a), (5, b), (20, c)]
end Go.Proofs.YtleoalcbgpjieaaDoor
