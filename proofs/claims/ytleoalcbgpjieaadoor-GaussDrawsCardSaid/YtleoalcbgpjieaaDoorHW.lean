/- few: its contract; the text of a small code is short. -/
import Derived.Test.YtleoalcbgpjieaaDoorGV
namespace Go.Proofs.YtleoalcbgpjieaaDoor
open Go.Ab
set_option linter.unusedVariables false
set_option linter.unusedSimpArgs false
set_option maxRecDepth 20000
attribute [local irreducible] wOps wA wSeq wBlk wRound wOpsD

/-- As big as slices may be. -/
structure Wide (g : GC) : Prop where
  c : g.C.length ≤ 140737488355328
  s : g.S.length ≤ 9223372036854775807
  v : ∀ c ∈ g.C, c.length ≤ 140737488355328
  l : -9223372036854775808 ≤ g.L ∧ g.L ≤ 9223372036854775807
  n : ∀ v ∈ g.C.flatten, -9223372036854775808 ≤ v.1 ∧ v.1 ≤ 9223372036854775807
def Few (g : GC) : Prop := g.S.length ≤ 14 ∧ g.C.length ≤ 28 ∧ g.C.flatten.length ≤ 42
theorem Few.fits {g : GC} (h : Few g) (w : Wide g) : GFits g := ⟨by have := h.2.1; omega, by have := h.2.2; omega, by have := h.1; omega, w.l, w.n⟩
def I15 (h0 : Heap) (q : Nat) (X : SV) (g : GC) (E : Env) (h : Heap) : Prop := ∃ (i : Nat) (V : Int), i ≤ g.C.length ∧ h = h0 ∧ (g.C.length ≤ 28 → V = ((g.C.take i).flatten.length : Int)) ∧
  E = [(1, some (.sc (.ptr q 0))), (3, some (.sc (.int .i64 V))), (7, some (.sc X)), (8, some (.sc (.int .i64 (g.C.length : Nat)))), (9, some (.sc (.int .i64 (i : Nat))))]
def R15 (h0 : Heap) (q : Nat) (g : GC) (ex : Ex) (E : Env) (h : Heap) : Prop := ex = .ex 0 ∧ h = h0 ∧ ∃ (V : Int) (a b c d : Option AV), (g.C.length ≤ 28 → V = (g.C.flatten.length : Int)) ∧
  E = [(1, some (.sc (.ptr q 0))), (3, some (.sc (.int .i64 V))), (7, a), (8, b), (9, c), (10, d)]
theorem flat28 {C : List (List Vis)} (h : ∀ c ∈ C, c.length ≤ 140737488355328) : C.flatten.length ≤ C.length * 140737488355328 := by
  induction C with
  | nil => simp
  | cons c r ih =>
    have h1 := h c (by simp)
    have h2 := ih (fun x hx => h x (by simp [hx]))
    simp only [List.flatten_cons, List.length_append, List.length_cons]; omega
theorem round15 (h0 : Heap) (q : Nat) (X : SV) (g : GC) (hw : Wide g) (hX : IsComps h0 X g.C) (E : Env) (h : Heap) (hI : I15 h0 q X g E h) :
    wA FT HKt b15L0 (E.keep [1, 3, 7, 8, 9]) h (wRound (I15 h0 q X g) (cnt g.C.length 9) (cnt g.C.length 9 E h) (R15 h0 q g)) := by
  obtain ⟨i, V, hi, rfl, hV, rfl⟩ := hI
  have hc := hw.c
  by_cases hlt : i < g.C.length
  · obtain ⟨vs, hx⟩ : ∃ vs, g.C[i]? = some vs := ⟨_, List.getElem?_eq_getElem hlt⟩
    obtain ⟨id, off, cap, t, rfl, hrd, it⟩ := hX.at hx
    have lt := it.len
    have eF := flat_snoc hx
    by_cases h28 : g.C.length ≤ 28
    · have hv := hV h28
      subst hv
      have h1 := flat28 hw.v
      have h2 := flat_le (C := g.C) (i + 1)
      rw [eF, List.length_append] at h2
      have h3 : g.C.length * 140737488355328 ≤ 28 * 140737488355328 := Nat.mul_le_mul_right _ h28
      have ec : (((g.C.take (i + 1)).flatten.length : Nat) : Int) = ((g.C.take i).flatten.length : Int) + (vs.length : Int) := by rw [eF, List.length_append]; omega
      repeat' (first | refine w_seq ?_ | refine w_seqN ?_ | refine w_blk ?_ | refine w_blkN ?_ | refine w_skip ?_ | refine w_ops ?_ | ((refine i_cond ?_); refine w_condT rfl ?_) | ((refine i_nil ?_); first | refine w_end5 rfl rfl rfl rfl rfl ?_ | refine w_end6 rfl rfl rfl rfl rfl rfl ?_) | ((refine i_cons ?_); first | refine k_idxA rfl rfl (by omega) ?_ | refine k_ld rfl hrd ?_ | refine k_len rfl lt ?_ | refine k_mv rfl ?_ | refine k_add rfl rfl (by omega) ?_ | refine k_lssT rfl rfl (by omega) ?_))
      exact w_roundN ⟨i + 1, _, by omega, rfl, fun _ => ec.symm, rfl⟩ (by simp [cnt, Env.get]; omega)
    · repeat' (first | refine w_seq ?_ | refine w_seqN ?_ | refine w_blk ?_ | refine w_blkN ?_ | refine w_skip ?_ | refine w_ops ?_ | ((refine i_cond ?_); refine w_condT rfl ?_) | ((refine i_nil ?_); first | refine w_end5 rfl rfl rfl rfl rfl ?_ | refine w_end6 rfl rfl rfl rfl rfl rfl ?_) | ((refine i_cons ?_); first | refine k_idxA rfl rfl (by omega) ?_ | refine k_ld rfl hrd ?_ | refine k_len rfl lt ?_ | refine k_add (m := (i : Int)) (n := 1) rfl rfl (by omega) ?_ | refine k_mv rfl ?_ | refine k_lssT rfl rfl (by omega) ?_ | refine k_ok rfl rfl ?_))
      exact w_roundN ⟨i + 1, _, by omega, rfl, fun h => absurd h h28, rfl⟩ (by simp [cnt, Env.get]; omega)
  · have hie : i = g.C.length := by omega
    subst hie
    rw [List.take_length] at hV
    repeat' (first | refine w_seq ?_ | refine w_seqN ?_ | refine w_seqX ?_ | refine w_exit ?_ | refine w_ops ?_ | ((refine i_cond ?_); refine w_condF rfl ?_) | ((refine i_nil ?_); refine w_end6 rfl rfl rfl rfl rfl rfl ?_) | ((refine i_cons ?_); refine k_lssF rfl rfl (by omega) ?_))
    exact w_roundX ⟨rfl, rfl, V, _, _, _, _, hV, rfl⟩
theorem call15 (h0 : Heap) (X Sg : SV) (g : GC) (hw : Wide g) (hc : IsCode h0 X Sg g) : ∃ v h', Cal FT HKt 15 [.agg [X, Sg, .int .i64 g.L]] h0 v h' ∧ Ext h0 h' ∧ ∃ b, v = .sc (.bool b) ∧ (b = true ↔ Few g) := by
  refine Cal.of (F := a15) rfl rfl rfl ?_
  have lX := hc.x.len
  have lS := IsSl.len hc.s
  have hcc := hw.c
  have hss := hw.s
  repeat' (first | refine w_seq ?_ | refine w_seqN ?_ | refine w_blk ?_ | refine w_ops ?_ | ((refine i_nil ?_); first | refine w_end1 rfl ?_ | refine w_end2 rfl rfl ?_ | refine w_end5 rfl rfl rfl rfl rfl ?_) | ((refine i_cons ?_); first | (refine k_box rfl rfl ?_; intro h1 e1 l1 b1) | refine k_fldA rfl ?_ | refine k_ldb rfl b1 rfl ?_ | refine k_len rfl lX ?_ | refine k_mv rfl ?_))
  refine w_loop (I15 h1 _ X g) (cnt g.C.length 9) (R15 h1 _ g) ⟨0, 0, Nat.zero_le _, rfl, fun _ => rfl, rfl⟩ (round15 h1 _ X g hw (hc.x.ext e1)) ?_
  rintro ex E' h' ⟨rfl, rfl, V, a, b, c, d, hV, rfl⟩
  by_cases hs : g.S.length ≤ 14
  · by_cases hcl : g.C.length ≤ 28
    · have hv := hV hcl
      subst hv
      by_cases hf : g.C.flatten.length ≤ 42
      · repeat' (first | refine w_seq ?_ | refine w_seqN ?_ | refine w_blkX ?_ | refine w_ret ?_ | refine w_ops ?_ | ((refine i_nil ?_); refine w_end1 rfl ?_) | ((refine i_cons ?_); first | refine k_fldA rfl ?_ | refine k_ldb rfl b1 rfl ?_ | refine k_len rfl lS ?_ | refine k_len rfl lX ?_ | refine k_want rfl ?_ | refine k_mv rfl ?_ | refine k_pickT rfl rfl ?_ | refine k_leqT rfl rfl (by omega) ?_))
        exact ⟨.inr rfl, e1, true, rfl, ⟨fun _ => ⟨hs, hcl, hf⟩, fun _ => rfl⟩⟩
      · repeat' (first | refine w_seq ?_ | refine w_seqN ?_ | refine w_blkX ?_ | refine w_ret ?_ | refine w_ops ?_ | ((refine i_nil ?_); refine w_end1 rfl ?_) | ((refine i_cons ?_); first | refine k_fldA rfl ?_ | refine k_ldb rfl b1 rfl ?_ | refine k_len rfl lS ?_ | refine k_len rfl lX ?_ | refine k_want rfl ?_ | refine k_mv rfl ?_ | refine k_pickT rfl rfl ?_ | refine k_leqT rfl rfl (by omega) ?_ | refine k_leqF rfl rfl (by omega) ?_))
        exact ⟨.inr rfl, e1, false, rfl, ⟨fun h => (by cases h), fun h => absurd h.2.2 hf⟩⟩
    · repeat' (first | refine w_seq ?_ | refine w_seqN ?_ | refine w_blkX ?_ | refine w_ret ?_ | refine w_ops ?_ | ((refine i_nil ?_); refine w_end1 rfl ?_) | ((refine i_cons ?_); first | refine k_fldA rfl ?_ | refine k_ldb rfl b1 rfl ?_ | refine k_len rfl lS ?_ | refine k_len rfl lX ?_ | refine k_skip rfl ?_ | refine k_want rfl ?_ | refine k_mv rfl ?_ | refine k_pickT rfl rfl ?_ | refine k_pickF rfl rfl ?_ | refine k_leqT rfl rfl (by omega) ?_ | refine k_leqF rfl rfl (by omega) ?_))
      exact ⟨.inr rfl, e1, false, rfl, ⟨fun h => (by cases h), fun h => absurd h.2.1 hcl⟩⟩
  · repeat' (first | refine w_seq ?_ | refine w_seqN ?_ | refine w_blkX ?_ | refine w_ret ?_ | refine w_ops ?_ | ((refine i_nil ?_); refine w_end1 rfl ?_) | ((refine i_cons ?_); first | refine k_fldA rfl ?_ | refine k_ldb rfl b1 rfl ?_ | refine k_len rfl lS ?_ | refine k_skip rfl ?_ | refine k_mv rfl ?_ | refine k_pickF rfl rfl ?_ | refine k_leqF rfl rfl (by omega) ?_))
    exact ⟨.inr rfl, e1, false, rfl, ⟨fun h => (by cases h), fun h => absurd h.1 hs⟩⟩
theorem fewT (h : Heap) (X Sg : SV) (g : GC) (hw : Wide g) (hc : IsCode h X Sg g) (hg : Few g) : ∃ v h', Cal FT HKt 15 [.agg [X, Sg, .int .i64 g.L]] h v h' ∧ Ext h h' ∧ v = .sc (.bool true) := by
  obtain ⟨v, h', hcl, he, b, rfl, hb⟩ := call15 h X Sg g hw hc
  exact ⟨_, _, hcl, he, by rw [hb.2 hg]⟩
theorem fewF (h : Heap) (X Sg : SV) (g : GC) (hw : Wide g) (hc : IsCode h X Sg g) (hg : ¬ Few g) : ∃ v h', Cal FT HKt 15 [.agg [X, Sg, .int .i64 g.L]] h v h' ∧ Ext h h' ∧ v = .sc (.bool false) := by
  obtain ⟨v, h', hcl, he, b, rfl, hb⟩ := call15 h X Sg g hw hc
  refine ⟨_, _, hcl, he, ?_⟩
  cases b with
  | false => rfl
  | true => exact absurd (hb.1 rfl) hg

end Go.Proofs.YtleoalcbgpjieaaDoor
