/- The reference's decimal and Format: contracts. -/
import Derived.Test.YtjmapbmdfbdomaaDoorG4
namespace Go.Proofs.YtjmapbmdfbdomaaDoor
open Go.Ab
set_option linter.unusedVariables false
set_option linter.unusedSimpArgs false
set_option maxRecDepth 20000
attribute [local irreducible] wOps wA wSeq wBlk wRound wOpsD

/-! ### decimal -/
theorem call27 (h0 : Heap) : ∀ (k n : Nat), n ≤ k → n ≤ 10000000 → ∃ v h', Cal FT HKt 27 [.sc (.int .i64 (n : Int))] h0 v h' ∧ h' = h0 ∧ v = .sc (tb (Lib.decDigits n)) := by
  intro k
  induction k with
  | zero =>
    intro n hn _
    have hn0 : n = 0 := by omega
    subst hn0
    refine Cal.of (F := a27) rfl rfl rfl ?_
    rw [Lib.decDigits_one (by decide)]
    repeat' (first | refine w_seq ?_ | refine w_seqN ?_ | refine w_seqR ?_ | refine w_ret ?_ | refine w_ops ?_ | ((refine i_cond ?_); refine w_condT rfl ?_) | ((refine i_nil ?_); first | refine w_end1 rfl ?_ | refine w_end2 rfl rfl ?_ | refine w_end3 rfl rfl rfl ?_) | ((refine i_cons ?_); first | refine k_dig rfl rfl rfl (by omega) ?_ | refine k_mv rfl ?_ | refine k_add rfl rfl (by omega) ?_ | refine k_rem rfl rfl (by omega) ?_ | refine k_lssT rfl rfl (by omega) ?_))
    exact ⟨.inr rfl, rfl, rfl⟩
  | succ k ih =>
    intro n hn hb
    refine Cal.of (F := a27) rfl rfl rfl ?_
    by_cases h : n < 10
    · rw [Lib.decDigits_one h]
      have e1 : ((n : Int) % 10).toNat = n := by omega
      repeat' (first | refine w_seq ?_ | refine w_seqN ?_ | refine w_seqR ?_ | refine w_ret ?_ | refine w_ops ?_ | ((refine i_cond ?_); refine w_condT rfl ?_) | ((refine i_nil ?_); first | refine w_end1 rfl ?_ | refine w_end2 rfl rfl ?_ | refine w_end3 rfl rfl rfl ?_) | ((refine i_cons ?_); first | refine k_dig rfl rfl rfl (by omega) ?_ | refine k_mv rfl ?_ | refine k_add rfl rfl (by omega) ?_ | refine k_rem rfl rfl (by omega) ?_ | refine k_lssT rfl rfl (by omega) ?_))
      exact ⟨.inr rfl, rfl, by rw [e1]; rfl⟩
    · rw [Lib.decDigits, dif_neg h]
      have e1 : ((n : Int) % 10).toNat = n % 10 := by omega
      have e2 : ((n / 10 : Nat) : Int) = (n : Int) / 10 := by omega
      have k1 := ih (n / 10) (by omega) (by omega)
      rw [e2] at k1
      have hl : (Lib.decDigits (n / 10)).length ≤ 21 := by
        have := Lib.itoa_length_le ((n / 10 : Nat) : Int) (by omega) (by omega)
        rwa [Lib.itoa_nonneg] at this
      repeat' (first | refine w_seq ?_ | refine w_seqN ?_ | refine w_skip ?_ | refine w_ret ?_ | refine w_ops ?_ | ((refine i_cond ?_); refine w_condF rfl ?_) | ((refine i_nil ?_); first | refine w_end1 rfl ?_ | refine w_end2 rfl rfl ?_ | refine w_end3 rfl rfl rfl ?_) | ((refine i_cons ?_); first | refine k_dig rfl rfl rfl (by omega) ?_ | (refine k_call rfl k1 ?_; rintro v h1 ⟨rfl, rfl⟩) | refine k_cat rfl rfl (by simp only [List.length_singleton]; omega) ?_ | refine k_mv rfl ?_ | refine k_add rfl rfl (by omega) ?_ | refine k_quo rfl rfl (by omega) ?_ | refine k_rem rfl rfl (by omega) ?_ | refine k_lssF rfl rfl (by omega) ?_))
      exact ⟨.inr rfl, rfl, by rw [e1]; rfl⟩
theorem dec27 (h0 : Heap) (x : Int) (hx : 0 ≤ x ∧ x ≤ 10000000) : ∃ v h', Cal FT HKt 27 [.sc (.int .i64 x)] h0 v h' ∧ h' = h0 ∧ v = .sc (tb (Lib.itoa x)) := by
  have := call27 h0 x.toNat x.toNat (Nat.le_refl _) (by omega)
  rw [show ((x.toNat : Nat) : Int) = x by omega] at this
  rw [itoa_nat hx.1]
  exact this

/-! ### Format -/
def I12v (hb : Heap) (q : Nat) (pre : List UInt8) (S : List Int) (i : Nat) (vs : List Vis) (E : Env) (h : Heap) : Prop := ∃ k : Nat, k ≤ vs.length ∧ Ext hb h ∧
  E = [(1, some (.sc (.ptr q 0))), (3, some (.sc (tb (pre ++ wrdT S (vs.take k))))), (4, some (.sc (.int .i64 (i : Nat)))), (5, some (.sc (.int .i64 (k : Nat))))]
def R12v (hb : Heap) (q : Nat) (pre : List UInt8) (S : List Int) (i : Nat) (vs : List Vis) (ex : Ex) (E : Env) (h : Heap) : Prop := ex = .ex 2 ∧ Ext hb h ∧ ∃ a b,
  E = [(1, some (.sc (.ptr q 0))), (3, some (.sc (tb (pre ++ wrdT S vs)))), (4, some (.sc (.int .i64 (i : Nat)))), (5, a), (37, b)]
set_option maxHeartbeats 4000000 in
theorem round12v (hb : Heap) (q : Nat) (X Sg Z : SV) (pre : List UInt8) (g : GC) (hg : VG g) (i : Nat) (vs : List Vis) (hi : g.C[i]? = some vs) (hX : IsComps hb X g.C) (hI : IsInts hb Sg g.S) (hq : Blk.At hb q [X, Sg, Z]) (hp : pre.length ≤ 2000000) (E : Env) (h : Heap) (hJ : I12v hb q pre g.S i vs E h) :
    wA FT HKt b12L1 (E.keep [1, 3, 4, 5]) h (wRound (I12v hb q pre g.S i vs) (cnt vs.length 5) (cnt vs.length 5 E h) (R12v hb q pre g.S i vs)) := by
  obtain ⟨k, hk, e, rfl⟩ := hJ
  obtain ⟨g1, g2, g3, g4, g5, g6, g7⟩ := hg
  have hv : ∀ v ∈ vs, 0 ≤ v.1 ∧ v.1 < g.S.length := fun v hv => g5 v (List.mem_flatten.2 ⟨vs, List.mem_of_getElem? hi, hv⟩)
  have hl : vs.length ≤ 128 := by
    have h1 := flat_snoc hi
    have h2 := flat_le (C := g.C) (i + 1)
    rw [h1, List.length_append] at h2
    omega
  have hil : i < g.C.length := (List.getElem?_eq_some_iff.1 hi).1
  obtain ⟨idx, offx, capx, t, eX, hrx, it⟩ := hX.at hi
  have hrx' := readN_ext e hrx
  have bq := hq.ext e
  have it' := it.ext e
  have lt := it'.len
  by_cases hlt : k < vs.length
  · obtain ⟨v, hx⟩ : ∃ v, vs[k]? = some v := ⟨_, List.getElem?_eq_getElem hlt⟩
    obtain ⟨v1, v2⟩ := hv v (List.mem_of_getElem? hx)
    obtain ⟨id, off, cap, et, hrd⟩ := it'.at hx
    have en : vs.take (k + 1) = vs.take k ++ [v] := take_snoc hx
    have hvn : v.1.toNat < g.S.length := by omega
    obtain ⟨x, hxs⟩ : ∃ x, g.S[v.1.toNat]? = some x := ⟨_, List.getElem?_eq_getElem hvn⟩
    have hxv : x = 1 ∨ x = -1 := g3 x (List.mem_of_getElem? hxs)
    have hgd : g.S.getD v.1.toNat 0 = x := by rw [List.getD_eq_getElem?_getD, hxs]; rfl
    obtain ⟨id2, off2, cap2, eS, hrS⟩ := IsInts.at hI hxs
    have lw := wrdT_len g.S (vs := vs.take k) (fun u hu => by have := hv u (List.mem_of_mem_take hu); omega)
    have lk : (vs.take k).length ≤ 128 := by rw [List.length_take]; omega
    have hit := Lib.itoa_length_le (v.1 + 1) (by omega) (by omega)
    have lT : (pre ++ wrdT g.S (vs.take k)).length ≤ 3000000 := by rw [List.length_append]; omega
    subst eX et eS
    rcases hxv with h1 | h1
    · have eT : pre ++ wrdT g.S (vs.take (k + 1)) = (((pre ++ wrdT g.S (vs.take k)) ++ [if v.2 = true then 79 else 85]) ++ Lib.itoa (v.1 + 1)) ++ [43] := by
        rw [en, wrdT_snoc]
        simp only [visT, hgd, if_pos h1, List.append_assoc, List.singleton_append, List.cons_append, List.nil_append]
      subst h1
      cases ho : v.2 with
      | true =>
        rw [ho, if_pos rfl] at eT
        repeat' (first | refine w_seq ?_ | refine w_seqN ?_ | refine w_blk ?_ | refine w_blkN ?_ | refine w_skip ?_ | refine w_ops ?_ | ((refine i_cond ?_); first | refine w_condT rfl ?_ | refine w_condF rfl ?_) | ((refine i_nil ?_); first | refine w_end4 rfl rfl rfl rfl ?_ | refine w_end5 rfl rfl rfl rfl rfl ?_ | refine w_end7 rfl rfl rfl rfl rfl rfl rfl ?_ | refine w_end8 rfl rfl rfl rfl rfl rfl rfl rfl ?_) | ((refine i_cons ?_); first | refine k_fldA rfl ?_ | (refine k_newst rfl ?_; intro h1 e1 c1; rw [ho] at c1; have bq1 := bq.ext e1; have r3 := readN_ext (e.trans e1) hrS) | refine k_ldb rfl bq1 rfl ?_ | refine k_ldC1 rfl c1 ?_ | refine k_ldC0 rfl c1 ?_ | refine k_ldb rfl bq rfl ?_ | refine k_idxA (esz := 1) rfl rfl (by omega) ?_ | refine k_idxA (esz := 2) rfl rfl (by omega) ?_ | refine k_ld rfl r3 ?_ | refine k_ld rfl hrx' ?_ | refine op_ldA rfl rfl hrd ?_ | refine k_len rfl lt ?_ | (refine k_call rfl (dec27 _ _ (by omega)) ?_; rintro v h' ⟨rfl, rfl⟩) | refine k_cat (b := [79]) rfl rfl (by simp only [List.length_singleton]; omega) ?_ | refine k_cat (b := Lib.itoa _) rfl rfl (by rw [List.length_append, List.length_singleton]; omega) ?_ | refine k_cat (b := [43]) rfl rfl (by simp only [List.length_append, List.length_singleton] at *; omega) ?_ | refine k_mv rfl ?_ | refine k_add rfl rfl (by omega) ?_ | refine k_lssT rfl rfl (by omega) ?_ | refine k_lssF rfl rfl (by omega) ?_))
        exact w_roundN ⟨k + 1, by omega, e.trans e1, by rw [eT]; rfl⟩ (by simp [cnt, Env.get]; omega)
      | false =>
        rw [ho, if_neg (by decide)] at eT
        repeat' (first | refine w_seq ?_ | refine w_seqN ?_ | refine w_blk ?_ | refine w_blkN ?_ | refine w_skip ?_ | refine w_ops ?_ | ((refine i_cond ?_); first | refine w_condT rfl ?_ | refine w_condF rfl ?_) | ((refine i_nil ?_); first | refine w_end4 rfl rfl rfl rfl ?_ | refine w_end5 rfl rfl rfl rfl rfl ?_ | refine w_end7 rfl rfl rfl rfl rfl rfl rfl ?_ | refine w_end8 rfl rfl rfl rfl rfl rfl rfl rfl ?_) | ((refine i_cons ?_); first | refine k_fldA rfl ?_ | (refine k_newst rfl ?_; intro h1 e1 c1; rw [ho] at c1; have bq1 := bq.ext e1; have r3 := readN_ext (e.trans e1) hrS) | refine k_ldb rfl bq1 rfl ?_ | refine k_ldC1 rfl c1 ?_ | refine k_ldC0 rfl c1 ?_ | refine k_ldb rfl bq rfl ?_ | refine k_idxA (esz := 1) rfl rfl (by omega) ?_ | refine k_idxA (esz := 2) rfl rfl (by omega) ?_ | refine k_ld rfl r3 ?_ | refine k_ld rfl hrx' ?_ | refine op_ldA rfl rfl hrd ?_ | refine k_len rfl lt ?_ | (refine k_call rfl (dec27 _ _ (by omega)) ?_; rintro v h' ⟨rfl, rfl⟩) | refine k_cat (b := [85]) rfl rfl (by simp only [List.length_singleton]; omega) ?_ | refine k_cat (b := Lib.itoa _) rfl rfl (by rw [List.length_append, List.length_singleton]; omega) ?_ | refine k_cat (b := [43]) rfl rfl (by simp only [List.length_append, List.length_singleton] at *; omega) ?_ | refine k_mv rfl ?_ | refine k_add rfl rfl (by omega) ?_ | refine k_lssT rfl rfl (by omega) ?_ | refine k_lssF rfl rfl (by omega) ?_))
        exact w_roundN ⟨k + 1, by omega, e.trans e1, by rw [eT]; rfl⟩ (by simp [cnt, Env.get]; omega)
    · have eT : pre ++ wrdT g.S (vs.take (k + 1)) = (((pre ++ wrdT g.S (vs.take k)) ++ [if v.2 = true then 79 else 85]) ++ Lib.itoa (v.1 + 1)) ++ [45] := by
        rw [en, wrdT_snoc]
        simp only [visT, hgd, if_neg (show ¬ x = 1 by omega), List.append_assoc, List.singleton_append, List.cons_append, List.nil_append]
      subst h1
      cases ho : v.2 with
      | true =>
        rw [ho, if_pos rfl] at eT
        repeat' (first | refine w_seq ?_ | refine w_seqN ?_ | refine w_blk ?_ | refine w_blkN ?_ | refine w_skip ?_ | refine w_ops ?_ | ((refine i_cond ?_); refine w_condT rfl ?_) | ((refine i_nil ?_); first | refine w_end4 rfl rfl rfl rfl ?_ | refine w_end5 rfl rfl rfl rfl rfl ?_ | refine w_end7 rfl rfl rfl rfl rfl rfl rfl ?_ | refine w_end8 rfl rfl rfl rfl rfl rfl rfl rfl ?_) | ((refine i_cons ?_); first | refine k_fldA rfl ?_ | (refine k_newst rfl ?_; intro h1 e1 c1; rw [ho] at c1; have bq1 := bq.ext e1; have r3 := readN_ext (e.trans e1) hrS) | refine k_ldb rfl bq1 rfl ?_ | refine k_ldC1 rfl c1 ?_ | refine k_ldC0 rfl c1 ?_ | refine k_ldb rfl bq rfl ?_ | refine k_idxA (esz := 1) rfl rfl (by omega) ?_ | refine k_idxA (esz := 2) rfl rfl (by omega) ?_ | refine k_ld rfl r3 ?_ | refine k_ld rfl hrx' ?_ | refine op_ldA rfl rfl hrd ?_ | refine k_len rfl lt ?_ | (refine k_call rfl (dec27 _ _ (by omega)) ?_; rintro v h' ⟨rfl, rfl⟩) | refine k_cat (b := [79]) rfl rfl (by simp only [List.length_singleton]; omega) ?_ | refine k_cat (b := Lib.itoa _) rfl rfl (by rw [List.length_append, List.length_singleton]; omega) ?_ | refine k_cat (b := [45]) rfl rfl (by simp only [List.length_append, List.length_singleton] at *; omega) ?_ | refine k_mv rfl ?_ | refine k_add rfl rfl (by omega) ?_ | refine k_lssT rfl rfl (by omega) ?_))
        exact w_roundN ⟨k + 1, by omega, e.trans e1, by rw [eT]; rfl⟩ (by simp [cnt, Env.get]; omega)
      | false =>
        rw [ho, if_neg (by decide)] at eT
        repeat' (first | refine w_seq ?_ | refine w_seqN ?_ | refine w_blk ?_ | refine w_blkN ?_ | refine w_skip ?_ | refine w_ops ?_ | ((refine i_cond ?_); first | refine w_condT rfl ?_ | refine w_condF rfl ?_) | ((refine i_nil ?_); first | refine w_end4 rfl rfl rfl rfl ?_ | refine w_end5 rfl rfl rfl rfl rfl ?_ | refine w_end7 rfl rfl rfl rfl rfl rfl rfl ?_ | refine w_end8 rfl rfl rfl rfl rfl rfl rfl rfl ?_) | ((refine i_cons ?_); first | refine k_fldA rfl ?_ | (refine k_newst rfl ?_; intro h1 e1 c1; rw [ho] at c1; have bq1 := bq.ext e1; have r3 := readN_ext (e.trans e1) hrS) | refine k_ldb rfl bq1 rfl ?_ | refine k_ldC1 rfl c1 ?_ | refine k_ldC0 rfl c1 ?_ | refine k_ldb rfl bq rfl ?_ | refine k_idxA (esz := 1) rfl rfl (by omega) ?_ | refine k_idxA (esz := 2) rfl rfl (by omega) ?_ | refine k_ld rfl r3 ?_ | refine k_ld rfl hrx' ?_ | refine op_ldA rfl rfl hrd ?_ | refine k_len rfl lt ?_ | (refine k_call rfl (dec27 _ _ (by omega)) ?_; rintro v h' ⟨rfl, rfl⟩) | refine k_cat (b := [85]) rfl rfl (by simp only [List.length_singleton]; omega) ?_ | refine k_cat (b := Lib.itoa _) rfl rfl (by rw [List.length_append, List.length_singleton]; omega) ?_ | refine k_cat (b := [45]) rfl rfl (by simp only [List.length_append, List.length_singleton] at *; omega) ?_ | refine k_mv rfl ?_ | refine k_add rfl rfl (by omega) ?_ | refine k_lssT rfl rfl (by omega) ?_))
        exact w_roundN ⟨k + 1, by omega, e.trans e1, by rw [eT]; rfl⟩ (by simp [cnt, Env.get]; omega)
  · have hke : k = vs.length := by omega
    subst hke
    subst eX
    rw [List.take_length]
    repeat' (first | refine w_seq ?_ | refine w_seqN ?_ | refine w_seqX ?_ | refine w_exit ?_ | refine w_ops ?_ | ((refine i_cond ?_); refine w_condF rfl ?_) | ((refine i_nil ?_); refine w_end5 rfl rfl rfl rfl rfl ?_) | ((refine i_cons ?_); first | refine k_fldA rfl ?_ | refine k_ldb rfl bq rfl ?_ | refine k_idxA (esz := 1) rfl rfl (by omega) ?_ | refine k_ld rfl hrx' ?_ | refine k_len rfl lt ?_ | refine k_mv rfl ?_ | refine k_lssF rfl rfl (by omega) ?_))
    exact w_roundX ⟨rfl, e, _, _, rfl⟩
end Go.Proofs.YtjmapbmdfbdomaaDoor
