/- The reference's Decimal and Labels. -/
import Derived.Test.YtehnalbdfnmphaaDoorF1
namespace Go.Proofs.YtehnalbdfnmphaaDoor
open Go.Ab
set_option linter.unusedVariables false
set_option linter.unusedSimpArgs false
set_option maxRecDepth 20000
set_option maxHeartbeats 4000000
attribute [local irreducible] wOps wA wSeq wBlk wRound wRoundI wOpsD

theorem digT {r : Nat} (hr : r < 10) : u8s [UInt8.ofNat (48 + r)] = [.int .u8 (48 + (r : Int))] := by
  have : (UInt8.ofNat (48 + r)).toNat = 48 + r := by rw [UInt8.toNat_ofNat']; omega
  simp only [u8s, List.map_cons, List.map_nil, this]
  congr 2
/-! ### Labels -/
theorem far_apart {h1 h2 : Heap} {u f : SV} {vs : List SV} (hu : Own h1 h2 u vs) (hf : Far h2 f) : Go.Ab.Apart u f := by
  intro j
  rcases hu with ⟨rfl, -⟩ | ⟨id, cap, cs, rfl, e1, e2, e3⟩
  · exact .inl fun o n c h => by cases h
  · by_cases hj : j = id
    · subst hj
      exact .inr (hf j (List.getElem?_eq_some_iff.1 e2).1)
    · exact .inl fun o n c h => hj (by cases h; rfl)
/-- Labels being written, strands lying apart. -/
structure StL (h1 : Heap) (ms : List Int) (H : List Nat) (fs : List SV) (Ls : List (List Nat)) (h : Heap) (u o : SV) (g : Nat) : Prop where
  e : Ext h1 h
  ou : Own h1 h u ((lbK ms H g).map (.int .i64))
  so : IsSl h o 1 fs.length fs
  sf : F2 (fun f L => IsStr h f L ∧ Go.Ab.Apart u f) fs Ls
  au : Go.Ab.Apart u o
/-- One step. -/
theorem StL.step {h1 : Heap} {ms : List Int} {H : List Nat} {fs : List SV} {Ls : List (List Nat)} {h : Heap} {u o : SV} {g x : Nat} (s : StL h1 ms H fs Ls h u o g) (hg : H[g]? = some x) (hx : x < ms.length) (hm : mateN ms x < ms.length) :
    ∃ id cap h2 h3, u = .slc id 0 ms.length cap ∧ writeN h id (0 + x * 1) [.int .i64 ((g + 1 : Nat) : Int)] = some h2 ∧ Ext h1 h2 ∧ writeN h2 id (0 + mateN ms x * 1) [.int .i64 ((g + 1 : Nat) : Int)] = some h3 ∧ StL h1 ms H fs Ls h3 u o (g + 1) := by
  have hl := lbK_len ms H g
  obtain ⟨id, cap, h2, e1, w1, o1, x1, f1, -⟩ := Go.Ab.Own.wr (i := x) s.e s.ou (by rw [List.length_map, hl]; exact hx) (.int .i64 ((g + 1 : Nat) : Int))
  obtain ⟨id2, cap2, h3, e2, w2, o2, x2, f2, -⟩ := Go.Ab.Own.wr (i := mateN ms x) x1 o1 (by rw [List.length_set, List.length_map, hl]; exact hm) (.int .i64 ((g + 1 : Nat) : Int))
  rw [e1] at e2
  simp only [SV.slc.injEq, true_and] at e2
  obtain ⟨rfl, -, rfl⟩ := e2
  rw [List.length_map, hl] at e1
  have hgd : H.getD g 0 = x := by simp [List.getD, hg]
  refine ⟨id, cap, h2, h3, e1, w1, x1, w2, ⟨x2, ?_, IsSl.away (IsSl.away s.so f1 s.au) f2 s.au, f2_mono (fun f L h => ⟨IsSl.away (IsSl.away h.1 f1 h.2) f2 h.2, h.2⟩) s.sf, s.au⟩⟩
  rw [lbK, hgd, List.map_set, List.map_set]
  exact o2

def I37k (h1 : Heap) (p u o : SV) (ms : List Int) (fs : List SV) (C : List (List Nat)) (i : Nat) (L : List Nat) (E : Env) (h : Heap) : Prop := ∃ k : Nat, k ≤ L.length ∧ StL h1 ms C.flatten fs C h u o ((C.take i).flatten.length + k) ∧
  E = [(1, some (.sc p)), (3, some (.sc u)), (4, some (.sc (.int .i64 ((C.take i).flatten.length + k : Nat)))), (5, some (.sc o)), (6, some (.sc (.int .i64 (i : Nat)))), (7, some (.sc (.int .i64 (k : Nat))))]
def R37k (h1 : Heap) (p u o : SV) (ms : List Int) (fs : List SV) (C : List (List Nat)) (i : Nat) (L : List Nat) (ex : Ex) (E : Env) (h : Heap) : Prop := ex = .ex 2 ∧ StL h1 ms C.flatten fs C h u o ((C.take i).flatten.length + L.length) ∧ ∃ x y,
  E = [(1, some (.sc p)), (3, some (.sc u)), (4, some (.sc (.int .i64 ((C.take i).flatten.length + L.length : Nat)))), (5, some (.sc o)), (6, some (.sc (.int .i64 (i : Nat)))), (7, x), (27, y)]
def I37i (h1 : Heap) (p u o : SV) (ms : List Int) (fs : List SV) (C : List (List Nat)) (E : Env) (h : Heap) : Prop := ∃ i : Nat, i ≤ C.length ∧ StL h1 ms C.flatten fs C h u o (C.take i).flatten.length ∧
  E.keep [1, 3, 4, 5, 6] = [(1, some (.sc p)), (3, some (.sc u)), (4, some (.sc (.int .i64 ((C.take i).flatten.length : Nat)))), (5, some (.sc o)), (6, some (.sc (.int .i64 (i : Nat))))]
def R37i (h1 : Heap) (u o : SV) (ms : List Int) (fs : List SV) (C : List (List Nat)) (ex : Ex) (E : Env) (h : Heap) : Prop := ex = .ex 0 ∧ StL h1 ms C.flatten fs C h u o C.flatten.length ∧ ∃ a b c d e,
  E = [(1, a), (3, some (.sc u)), (4, b), (5, c), (6, d), (18, e)]
end Go.Proofs.YtehnalbdfnmphaaDoor
