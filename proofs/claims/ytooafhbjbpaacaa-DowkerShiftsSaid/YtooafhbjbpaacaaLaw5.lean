/- The law DowkerDraws, reckoned. -/
import Derived.Test.YtooafhbjbpaacaaD6
import Derived.Test.YtooafhbjbpaacaaValid
namespace Go.Proofs.Ytooafhbjbpaacaa
open Go.Ab
set_option linter.unusedVariables false
set_option linter.unusedSimpArgs false
set_option maxRecDepth 20000
set_option maxHeartbeats 4000000
attribute [local irreducible] wOps wA wSeq wBlk wRound wRoundI wOpsD wOpsS

theorem sgF {vs : List Int} (hg : ¬ Good vs) {h0 : Heap} {v : AV} {h' : Heap} (q : SgR vs h0 v h') : v = .tup [.sc .nilS, .sc (.int .i64 3)] ∧ Ext h0 h' := by
  obtain ⟨e, ⟨x, y⟩ | ⟨x, _⟩ | ⟨x, _⟩ | ⟨x, _⟩⟩ := q
  · exact ⟨y, e⟩
  · exact absurd x hg
  · exact absurd x hg
  · exact absurd x hg
theorem dgF {vs : List Int} (hg : ¬ Good vs) {h0 : Heap} {v : AV} {h' : Heap} (q : DgR vs h0 v h') : v = .tup [.agg [.nilS, .nilS, .int .i64 0], .sc (.int .i64 3)] ∧ Ext h0 h' := by
  obtain ⟨e, ⟨x, y⟩ | ⟨x, _⟩ | ⟨x, _⟩ | ⟨x, _⟩⟩ := q
  · exact ⟨y, e⟩
  · exact absurd x hg
  · exact absurd x hg
  · exact absurd x hg
theorem sgN {vs : List Int} (hg : Good vs) (h14 : vs.length ≤ 14) (hn : ∀ q ∈ cands [] vs.length, ¬ Pd vs q) {h0 : Heap} {v : AV} {h' : Heap} (q : SgR vs h0 v h') : v = .tup [.sc .nilS, .sc (.int .i64 7)] ∧ Ext h0 h' := by
  obtain ⟨e, ⟨x, _⟩ | ⟨_, x, _⟩ | ⟨_, _, _, x⟩ | ⟨_, _, S, L, ⟨A, B, x, y, z⟩, _⟩⟩ := q
  · exact absurd hg x
  · omega
  · exact ⟨x, e⟩
  · exact absurd y (hn L (by rw [x]; simp))
theorem dgN {vs : List Int} (hg : Good vs) (h14 : vs.length ≤ 14) (hn : ∀ q ∈ cands [] vs.length, ¬ Pd vs q) {h0 : Heap} {v : AV} {h' : Heap} (q : DgR vs h0 v h') : v = .tup [.agg [.nilS, .nilS, .int .i64 0], .sc (.int .i64 7)] ∧ Ext h0 h' := by
  obtain ⟨e, ⟨x, _⟩ | ⟨_, x, _⟩ | ⟨_, _, _, x⟩ | ⟨_, _, S, M, L, ⟨A, B, x, y, z⟩, _⟩⟩ := q
  · exact absurd hg x
  · omega
  · exact ⟨x, e⟩
  · exact absurd y (hn L (by rw [x]; simp))
theorem sgY {vs : List Int} (hg : Good vs) (h14 : vs.length ≤ 14) (hn : ¬ ∀ q ∈ cands [] vs.length, ¬ Pd vs q) {h0 : Heap} {v : AV} {h' : Heap} (q : SgR vs h0 v h') :
    ∃ S L, FirstIs (Pd vs) (cands [] vs.length) L ∧ (∃ r, L = 1 :: r) ∧ v = .tup [.sc S, .sc (.int .i64 0)] ∧ IsInts h' S L ∧ Ext h0 h' := by
  obtain ⟨e, ⟨x, _⟩ | ⟨_, x, _⟩ | ⟨_, _, x, _⟩ | ⟨_, _, S, L, x1, x2, x3, x4⟩⟩ := q
  · exact absurd hg x
  · omega
  · exact absurd x hn
  · exact ⟨S, L, x1, x2, x3, x4, e⟩
theorem dgY {vs : List Int} (hg : Good vs) (h14 : vs.length ≤ 14) (hn : ¬ ∀ q ∈ cands [] vs.length, ¬ Pd vs q) {h0 : Heap} {v : AV} {h' : Heap} (q : DgR vs h0 v h') :
    ∃ t m L, FirstIs (Pd vs) (cands [] vs.length) L ∧ (∃ r, L = 1 :: r) ∧ v = .tup [.agg [t, m, .int .i64 0], .sc (.int .i64 0)] ∧ IsInts h' t L ∧ IsInts h' m (mtD vs L) ∧ Ext h0 h' := by
  obtain ⟨e, ⟨x, _⟩ | ⟨_, x, _⟩ | ⟨_, _, x, _⟩ | ⟨_, _, t, m, L, x1, x2, x3, x4, x5⟩⟩ := q
  · exact absurd hg x
  · omega
  · exact absurd x hn
  · exact ⟨t, m, L, x1, x2, x3, x4, x5, e⟩
theorem first_uniq {P : List Int → Prop} {C : List (List Int)} {a b : List Int} (ha : FirstIs P C a) (hb : FirstIs P C b) : a = b := by
  obtain ⟨r, e1⟩ := ha.oks
  obtain ⟨r', e2⟩ := hb.oks
  rw [e1] at e2
  exact (List.cons.inj e2).1
theorem first_ln {P : List Int → Prop} {n : Nat} {L : List Int} (h : FirstIs P (cands [] n) L) : L.length = n := by
  obtain ⟨A, B, x, y, z⟩ := h
  have := (cands_mem (q := L) (p := []) (k := n) (by rw [x]; simp)).1
  simpa using this
theorem al_first {h4 h5 : Heap} {X : SV} {L : List Int} {r : List (List Int)} (al : Al h4 h5 X (L :: r)) : ∃ (n id : Nat) (cap : Option Nat) (t : SV), 1 ≤ n ∧ X = .slc id 0 n cap ∧ lenS false X = some (n : Int) ∧ readN h5 id (0 + (0 : Int).toNat * 1) 1 = some [t] ∧ IsInts h5 t L := by
  obtain ⟨ss, x1, x2, x3⟩ := al
  cases ss with
  | nil => simp at x1
  | cons t ss =>
    obtain ⟨id, cap, hX, hr⟩ := x2.rd (i := 0) (v := t) rfl
    exact ⟨(t :: ss).length, id, cap, t, by simp, hX, Own.len x2, hr, (x3 0 t L rfl rfl).1⟩
theorem mtD_ln (vs q : List Int) : (mtD vs q).length = 4 * vs.length := mtT_len vs.length (inD vs q vs.length) (outD vs q vs.length) (2 * vs.length)
end Go.Proofs.Ytooafhbjbpaacaa
