/- The reference's count. -/
import Derived.Test.YtleoalcbgpjieaaDoorGV
namespace Go.Proofs.YtleoalcbgpjieaaDoor
open Go.Ab
set_option linter.unusedVariables false
set_option linter.unusedSimpArgs false
set_option maxRecDepth 20000
attribute [local irreducible] wOps wA wSeq wBlk wRound wOpsD

def cn (F : List Vis) (u : Vis) : Nat := F.countP fun v => decide (v = u)
theorem cn_app (a b : List Vis) (u : Vis) : cn (a ++ b) u = cn a u + cn b u := by simp [cn]
theorem cn_le (F : List Vis) (u : Vis) : cn F u ≤ F.length := List.countP_le_length
theorem cn_one (v u : Vis) : cn [v] u = if v = u then 1 else 0 := by
  unfold cn
  by_cases h : v = u
  · simp [h]
  · simp [h]
def I40v (hb : Heap) (q : Nat) (u : Vis) (F : List Vis) (i : Nat) (vs : List Vis) (E : Env) (h : Heap) : Prop := ∃ k : Nat, k ≤ vs.length ∧ Ext hb h ∧
  E = [(1, some (.sc (.int .i64 u.1))), (2, some (.sc (.bool u.2))), (3, some (.sc (.ptr q 0))), (7, some (.sc (.int .i64 (cn (F ++ vs.take k) u : Nat)))), (8, some (.sc (.int .i64 (i : Nat)))), (9, some (.sc (.int .i64 (k : Nat))))]
def R40v (hb : Heap) (q : Nat) (u : Vis) (F : List Vis) (i : Nat) (vs : List Vis) (ex : Ex) (E : Env) (h : Heap) : Prop := ex = .ex 2 ∧ Ext hb h ∧ ∃ a b,
  E = [(1, some (.sc (.int .i64 u.1))), (2, some (.sc (.bool u.2))), (3, some (.sc (.ptr q 0))), (7, some (.sc (.int .i64 (cn (F ++ vs) u : Nat)))), (8, some (.sc (.int .i64 (i : Nat)))), (9, a), (25, b)]
set_option maxHeartbeats 4000000 in
theorem round40v (hb : Heap) (q : Nat) (X Y Z : SV) (u : Vis) (g : GC) (hf : GFits g) (F : List Vis) (hF : F.length ≤ 1000000) (i : Nat) (vs : List Vis) (hi : g.C[i]? = some vs) (hX : IsComps hb X g.C) (hq : Blk.At hb q [X, Y, Z]) (E : Env) (h : Heap) (hJ : I40v hb q u F i vs E h) :
    wA FT HKt b40L1 (E.keep [1, 2, 3, 7, 8, 9]) h (wRound (I40v hb q u F i vs) (cnt vs.length 9) (cnt vs.length 9 E h) (R40v hb q u F i vs)) := by
  obtain ⟨k, hk, e, rfl⟩ := hJ
  have hil : i < g.C.length := (List.getElem?_eq_some_iff.1 hi).1
  have hvl : vs.length ≤ 1000000 := by
    have h1 := flat_snoc hi
    have h2 := flat_le (C := g.C) (i + 1)
    rw [h1, List.length_append] at h2
    have := hf.v
    omega
  obtain ⟨idx, offx, capx, t, rfl, hrx, it⟩ := hX.at hi
  have hrx' := readN_ext e hrx
  have bq := hq.ext e
  have it' := it.ext e
  have lt := it'.len
  have hc := hf.c
  have hcn := cn_le (F ++ vs.take k) u
  have hcl : (F ++ vs.take k).length ≤ 2000000 := by rw [List.length_append, List.length_take]; omega
  by_cases hlt : k < vs.length
  · obtain ⟨v, hx⟩ : ∃ v, vs[k]? = some v := ⟨_, List.getElem?_eq_getElem hlt⟩
    obtain ⟨id, off, cap, rfl, hrd⟩ := it'.at hx
    have en : F ++ vs.take (k + 1) = (F ++ vs.take k) ++ [v] := by rw [take_snoc hx, List.append_assoc]
    have ec : cn (F ++ vs.take (k + 1)) u = cn (F ++ vs.take k) u + (if v = u then 1 else 0) := by rw [en, cn_app, cn_one]
    rcases u with ⟨c, o⟩
    by_cases h1 : v.1 = c
    · by_cases h2 : v.2 = o
      · have hv : v = (c, o) := by rw [← h1, ← h2]
        rw [if_pos hv] at ec
        subst hv
        cases o with
        | true =>
          repeat' (first | refine w_seq ?_ | refine w_seqN ?_ | refine w_blk ?_ | refine w_blkN ?_ | refine w_skip ?_ | refine w_ops ?_ | ((refine i_cond ?_); refine w_condT rfl ?_) | ((refine i_nil ?_); first | refine w_end6 rfl rfl rfl rfl rfl rfl ?_ | refine w_end7 rfl rfl rfl rfl rfl rfl rfl ?_) | ((refine i_cons ?_); first | refine k_fldA rfl ?_ | (refine k_newst rfl ?_; intro h1 e1 c1; have e2 := e.trans e1) | refine k_ldC1 rfl c1 ?_ | refine k_ldC0 rfl c1 ?_ | refine k_ldb rfl bq rfl ?_ | refine k_idxA (esz := 1) rfl rfl (by omega) ?_ | refine k_idxA (esz := 2) rfl rfl (by omega) ?_ | refine k_ld rfl hrx' ?_ | refine op_ldA rfl rfl hrd ?_ | refine k_len rfl lt ?_ | refine k_want rfl ?_ | refine k_mv rfl ?_ | refine k_pickT rfl rfl ?_ | refine k_add rfl rfl (by omega) ?_ | refine k_lssT rfl rfl (by omega) ?_ | refine k_eqlT rfl rfl (by omega) ?_ | refine k_ok rfl rfl ?_))
          exact w_roundN ⟨k + 1, by omega, e2, by rw [ec]; rfl⟩ (by simp [cnt, Env.get]; omega)
        | false =>
          repeat' (first | refine w_seq ?_ | refine w_seqN ?_ | refine w_blk ?_ | refine w_blkN ?_ | refine w_skip ?_ | refine w_ops ?_ | ((refine i_cond ?_); refine w_condT rfl ?_) | ((refine i_nil ?_); first | refine w_end6 rfl rfl rfl rfl rfl rfl ?_ | refine w_end7 rfl rfl rfl rfl rfl rfl rfl ?_) | ((refine i_cons ?_); first | refine k_fldA rfl ?_ | (refine k_newst rfl ?_; intro h1 e1 c1; have e2 := e.trans e1) | refine k_ldC1 rfl c1 ?_ | refine k_ldC0 rfl c1 ?_ | refine k_ldb rfl bq rfl ?_ | refine k_idxA (esz := 1) rfl rfl (by omega) ?_ | refine k_idxA (esz := 2) rfl rfl (by omega) ?_ | refine k_ld rfl hrx' ?_ | refine op_ldA rfl rfl hrd ?_ | refine k_len rfl lt ?_ | refine k_want rfl ?_ | refine k_mv rfl ?_ | refine k_pickT rfl rfl ?_ | refine k_add rfl rfl (by omega) ?_ | refine k_lssT rfl rfl (by omega) ?_ | refine k_eqlT rfl rfl (by omega) ?_ | refine k_ok rfl rfl ?_))
          exact w_roundN ⟨k + 1, by omega, e2, by rw [ec]; rfl⟩ (by simp [cnt, Env.get]; omega)
      · have hv : v ≠ (c, o) := fun e => h2 (by rw [e])
        rw [if_neg hv, Nat.add_zero] at ec
        cases o with
        | true =>
          have ho : v.2 = false := by cases hh : v.2 with | true => exact absurd hh h2 | false => rfl
          repeat' (first | refine w_seq ?_ | refine w_seqN ?_ | refine w_blk ?_ | refine w_blkN ?_ | refine w_skip ?_ | refine w_ops ?_ | ((refine i_cond ?_); first | refine w_condT rfl ?_ | refine w_condF rfl ?_) | ((refine i_nil ?_); first | refine w_end6 rfl rfl rfl rfl rfl rfl ?_ | refine w_end7 rfl rfl rfl rfl rfl rfl rfl ?_) | ((refine i_cons ?_); first | refine k_fldA rfl ?_ | (refine k_newst rfl ?_; intro h1 e1 c1; have e2 := e.trans e1; rw [ho] at c1) | refine k_ldC1 rfl c1 ?_ | refine k_ldC0 rfl c1 ?_ | refine k_ldb rfl bq rfl ?_ | refine k_idxA (esz := 1) rfl rfl (by omega) ?_ | refine k_idxA (esz := 2) rfl rfl (by omega) ?_ | refine k_ld rfl hrx' ?_ | refine op_ldA rfl rfl hrd ?_ | refine k_len rfl lt ?_ | refine k_want rfl ?_ | refine k_mv rfl ?_ | refine k_pickT rfl rfl ?_ | refine k_add rfl rfl (by omega) ?_ | refine k_lssT rfl rfl (by omega) ?_ | refine k_eqlT rfl rfl (by omega) ?_ | refine k_ok rfl rfl ?_))
          exact w_roundN ⟨k + 1, by omega, e2, by rw [ec]; rfl⟩ (by simp [cnt, Env.get]; omega)
        | false =>
          have ho : v.2 = true := by cases hh : v.2 with | false => exact absurd hh h2 | true => rfl
          repeat' (first | refine w_seq ?_ | refine w_seqN ?_ | refine w_blk ?_ | refine w_blkN ?_ | refine w_skip ?_ | refine w_ops ?_ | ((refine i_cond ?_); first | refine w_condT rfl ?_ | refine w_condF rfl ?_) | ((refine i_nil ?_); first | refine w_end6 rfl rfl rfl rfl rfl rfl ?_ | refine w_end7 rfl rfl rfl rfl rfl rfl rfl ?_) | ((refine i_cons ?_); first | refine k_fldA rfl ?_ | (refine k_newst rfl ?_; intro h1 e1 c1; have e2 := e.trans e1; rw [ho] at c1) | refine k_ldC1 rfl c1 ?_ | refine k_ldC0 rfl c1 ?_ | refine k_ldb rfl bq rfl ?_ | refine k_idxA (esz := 1) rfl rfl (by omega) ?_ | refine k_idxA (esz := 2) rfl rfl (by omega) ?_ | refine k_ld rfl hrx' ?_ | refine op_ldA rfl rfl hrd ?_ | refine k_len rfl lt ?_ | refine k_want rfl ?_ | refine k_mv rfl ?_ | refine k_pickT rfl rfl ?_ | refine k_add rfl rfl (by omega) ?_ | refine k_lssT rfl rfl (by omega) ?_ | refine k_eqlT rfl rfl (by omega) ?_ | refine k_ok rfl rfl ?_))
          exact w_roundN ⟨k + 1, by omega, e2, by rw [ec]; rfl⟩ (by simp [cnt, Env.get]; omega)
    · have hv : v ≠ (c, o) := fun e => h1 (by rw [e])
      rw [if_neg hv, Nat.add_zero] at ec
      repeat' (first | refine w_seq ?_ | refine w_seqN ?_ | refine w_blk ?_ | refine w_blkN ?_ | refine w_skip ?_ | refine w_ops ?_ | ((refine i_cond ?_); first | refine w_condT rfl ?_ | refine w_condF rfl ?_) | ((refine i_nil ?_); first | refine w_end6 rfl rfl rfl rfl rfl rfl ?_ | refine w_end7 rfl rfl rfl rfl rfl rfl rfl ?_) | ((refine i_cons ?_); first | refine k_fldA rfl ?_ | (refine k_newst rfl ?_; intro h1 e1 c1; have e2 := e.trans e1) | refine k_ldC0 rfl c1 ?_ | refine k_ldb rfl bq rfl ?_ | refine k_idxA (esz := 1) rfl rfl (by omega) ?_ | refine k_idxA (esz := 2) rfl rfl (by omega) ?_ | refine k_ld rfl hrx' ?_ | refine op_ldA rfl rfl hrd ?_ | refine k_len rfl lt ?_ | refine k_skip rfl ?_ | refine k_mv rfl ?_ | refine k_pickF rfl rfl ?_ | refine k_add rfl rfl (by omega) ?_ | refine k_lssT rfl rfl (by omega) ?_ | refine k_eqlF rfl rfl (by omega) ?_))
      exact w_roundN ⟨k + 1, by omega, e2, by rw [ec]; rfl⟩ (by simp [cnt, Env.get]; omega)
  · have hke : k = vs.length := by omega
    subst hke
    rw [List.take_length]
    repeat' (first | refine w_seq ?_ | refine w_seqN ?_ | refine w_seqX ?_ | refine w_exit ?_ | refine w_ops ?_ | ((refine i_cond ?_); refine w_condF rfl ?_) | ((refine i_nil ?_); refine w_end7 rfl rfl rfl rfl rfl rfl rfl ?_) | ((refine i_cons ?_); first | refine k_fldA rfl ?_ | refine k_ldb rfl bq rfl ?_ | refine k_idxA (esz := 1) rfl rfl (by omega) ?_ | refine k_ld rfl hrx' ?_ | refine k_len rfl lt ?_ | refine k_mv rfl ?_ | refine k_lssF rfl rfl (by omega) ?_))
    exact w_roundX ⟨rfl, e, _, _, rfl⟩
def I40c (hb : Heap) (q : Nat) (u : Vis) (g : GC) (E : Env) (h : Heap) : Prop := ∃ i : Nat, i ≤ g.C.length ∧ Ext hb h ∧
  E = [(1, some (.sc (.int .i64 u.1))), (2, some (.sc (.bool u.2))), (3, some (.sc (.ptr q 0))), (7, some (.sc (.int .i64 (cn (g.C.take i).flatten u : Nat)))), (8, some (.sc (.int .i64 (i : Nat))))]
def R40c (hb : Heap) (u : Vis) (g : GC) (ex : Ex) (E : Env) (h : Heap) : Prop := ex = .ex 0 ∧ Ext hb h ∧ ∃ a b c d e,
  E = [(1, a), (2, b), (3, c), (7, some (.sc (.int .i64 (cn g.C.flatten u : Nat)))), (8, d), (15, e)]
theorem round40c (hb : Heap) (q : Nat) (X Y Z : SV) (u : Vis) (g : GC) (hf : GFits g) (hX : IsComps hb X g.C) (hq : Blk.At hb q [X, Y, Z]) (E : Env) (h : Heap) (hJ : I40c hb q u g E h) :
    wA FT HKt b40L0 (E.keep [1, 2, 3, 7, 8]) h (wRound (I40c hb q u g) (cnt g.C.length 8) (cnt g.C.length 8 E h) (R40c hb u g)) := by
  obtain ⟨i, hi, e, rfl⟩ := hJ
  have bq := hq.ext e
  have lX := hX.len
  have hc := hf.c
  by_cases hlt : i < g.C.length
  · obtain ⟨vs, hx⟩ : ∃ vs, g.C[i]? = some vs := ⟨_, List.getElem?_eq_getElem hlt⟩
    have eF := flat_snoc hx
    repeat' (first | refine w_seq ?_ | refine w_seqN ?_ | refine w_blk ?_ | refine w_skip ?_ | refine w_ops ?_ | ((refine i_cond ?_); refine w_condT rfl ?_) | ((refine i_nil ?_); refine w_end6 rfl rfl rfl rfl rfl rfl ?_) | ((refine i_cons ?_); first | refine k_fldA rfl ?_ | refine k_ldb rfl bq rfl ?_ | refine k_len rfl lX ?_ | refine k_mv rfl ?_ | refine k_lssT rfl rfl (by omega) ?_))
    refine w_loop (I40v h q u (g.C.take i).flatten i vs) (cnt vs.length 9) (R40v h q u (g.C.take i).flatten i vs) ⟨0, Nat.zero_le _, Ext.refl _, by simp⟩ (round40v h q X Y Z u g hf _ (by have := flat_le (C := g.C) i; have := hf.v; omega) i vs hx (hX.ext e) bq) ?_
    rintro ex E' h' ⟨rfl, e2, a, b, rfl⟩
    repeat' (first | refine w_seqN ?_ | refine w_blkN ?_ | refine w_blkX ?_ | refine w_ops ?_ | ((refine i_nil ?_); refine w_end5 rfl rfl rfl rfl rfl ?_) | ((refine i_cons ?_); first | refine k_mv rfl ?_ | refine k_add rfl rfl (by omega) ?_))
    exact w_roundN ⟨i + 1, by omega, e.trans e2, by rw [eF]; rfl⟩ (by simp [cnt, Env.get]; omega)
  · have hie : i = g.C.length := by omega
    subst hie
    rw [List.take_length]
    repeat' (first | refine w_seq ?_ | refine w_seqN ?_ | refine w_seqX ?_ | refine w_exit ?_ | refine w_ops ?_ | ((refine i_cond ?_); refine w_condF rfl ?_) | ((refine i_nil ?_); refine w_end6 rfl rfl rfl rfl rfl rfl ?_) | ((refine i_cons ?_); first | refine k_fldA rfl ?_ | refine k_ldb rfl bq rfl ?_ | refine k_len rfl lX ?_ | refine k_mv rfl ?_ | refine k_lssF rfl rfl (by omega) ?_))
    exact w_roundX ⟨rfl, e, _, _, _, _, _, rfl⟩
theorem call40 (h0 : Heap) (X Sg : SV) (g : GC) (hf : GFits g) (hc : IsCode h0 X Sg g) (c : Int) (o : Bool) : ∃ v h', Cal FT HKt 40 [.agg [X, Sg, .int .i64 g.L], .sc (.int .i64 c), .sc (.bool o)] h0 v h' ∧ Ext h0 h' ∧ v = .sc (.int .i64 (cn g.C.flatten (c, o) : Nat)) := by
  refine Cal.of (F := a40) rfl rfl rfl ?_
  repeat' (first | refine w_seq ?_ | refine w_seqN ?_ | refine w_blk ?_ | refine w_ops ?_ | ((refine i_nil ?_); first | refine w_end3 rfl rfl rfl ?_ | refine w_end4 rfl rfl rfl rfl ?_ | refine w_end5 rfl rfl rfl rfl rfl ?_) | ((refine i_cons ?_); first | (refine k_box rfl rfl ?_; intro h1 e1 l1 b1) | refine k_mv rfl ?_))
  refine w_loop (I40c h1 _ (c, o) g) (cnt g.C.length 8) (R40c h1 (c, o) g) ⟨0, Nat.zero_le _, Ext.refl _, rfl⟩ (round40c h1 _ X Sg _ (c, o) g hf (hc.x.ext e1) b1) ?_
  rintro ex E' h' ⟨rfl, e2, a, b, c', d, e, rfl⟩
  repeat' (first | refine w_seq ?_ | refine w_seqN ?_ | refine w_blkX ?_ | refine w_ret ?_ | refine w_ops ?_ | ((refine i_nil ?_); refine w_end1 rfl ?_) | ((refine i_cons ?_); refine k_mv rfl ?_))
  exact ⟨.inr rfl, e1.trans e2, rfl⟩
end Go.Proofs.YtleoalcbgpjieaaDoor
