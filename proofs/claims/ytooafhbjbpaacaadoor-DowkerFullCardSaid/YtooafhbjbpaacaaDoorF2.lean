/- The law DowkerFull, reckoned. -/
import Derived.Test.YtooafhbjbpaacaaDoorF1
import Derived.Test.YtooafhbjbpaacaaDoorT5
namespace Go.Proofs.YtooafhbjbpaacaaDoor
open Go.Ab
set_option linter.unusedVariables false
set_option linter.unusedSimpArgs false
set_option maxRecDepth 20000
attribute [local irreducible] wOps wA wSeq wBlk wRound wOpsD

/-! ### Signs and Diagram of a long code -/
theorem call12f (h0 : Heap) (t : SV) (xs : List Int) (hs : IsInts h0 t xs) (hg : Good xs) (hl : 14 < xs.length) :
    ∃ v h', Cal FT HKt 12 [.sc t] h0 v h' ∧ v = .tup [.sc .nilS, .sc (.int .i64 5)] ∧ Ext h0 h' := by
  refine Cal.of (F := a12) rfl rfl rfl ?_
  have hln := IsSl.len hs
  repeat' (first
    | refine w_seq ?_
    | refine w_seqN ?_
    | refine w_seqX ?_
    | refine w_seqR ?_
    | refine w_blk ?_
    | refine w_blkN ?_
    | refine w_blkX ?_
    | refine w_blkR ?_
    | refine w_skip ?_
    | refine w_ret ?_
    | refine w_exit ?_
    | refine w_ops ?_
    | refine w_opsD ?_
    | refine d_one ?_
    | refine d_nil ?_
    | ((refine i_cond ?_); first | refine w_condT rfl ?_ | refine w_condF rfl ?_)
    | ((refine i_nil ?_); first | refine d_same ?_ | refine d_ord ?_ | refine d_ext ⟨_, rfl⟩ ?_ | refine d_ext (extA _ _ _) ?_ | refine d_ext (by assumption) ?_ | refine w_end0 ?_ | refine w_end1 rfl ?_ | refine w_end2 rfl rfl ?_ | refine w_end3 rfl rfl rfl ?_ | refine w_end4 rfl rfl rfl rfl ?_ | refine w_end5 rfl rfl rfl rfl rfl ?_ | refine w_end6 rfl rfl rfl rfl rfl rfl ?_ | refine w_end7 rfl rfl rfl rfl rfl rfl rfl ?_ | refine w_end8 rfl rfl rfl rfl rfl rfl rfl rfl ?_ | refine w_end9 rfl rfl rfl rfl rfl rfl rfl rfl rfl ?_ | refine w_end10 rfl rfl rfl rfl rfl rfl rfl rfl rfl rfl ?_ | refine w_end11 rfl rfl rfl rfl rfl rfl rfl rfl rfl rfl rfl ?_ | refine w_end12 rfl rfl rfl rfl rfl rfl rfl rfl rfl rfl rfl rfl ?_ | refine w_end13 rfl rfl rfl rfl rfl rfl rfl rfl rfl rfl rfl rfl rfl ?_ | refine w_end14 rfl rfl rfl rfl rfl rfl rfl rfl rfl rfl rfl rfl rfl rfl ?_ | refine w_end15 rfl rfl rfl rfl rfl rfl rfl rfl rfl rfl rfl rfl rfl rfl rfl ?_ | refine w_end16 rfl rfl rfl rfl rfl rfl rfl rfl rfl rfl rfl rfl rfl rfl rfl rfl ?_)
    | ((refine i_cons ?_); first
      | (refine k_box rfl rfl ?_; intro h1 e1 l1 b1)
      | refine k_ldb rfl b1 rfl ?_
      | (refine k_call rfl (valT _ t xs (IsSl.ext hs e1) hg) ?_; rintro v h2 ⟨rfl, e2⟩; have b2 := b1.ext e2)
      | refine k_ldb rfl b2 rfl ?_
      | refine k_len rfl hln ?_
      | refine k_skip rfl ?_
      | refine k_skipU rfl ?_
      | refine k_want rfl ?_
      | refine k_mv rfl ?_
      | refine k_pickT rfl rfl ?_
      | refine k_pickF rfl rfl ?_
      | refine k_notT rfl ?_
      | refine k_notF rfl ?_
      | refine k_add rfl rfl (by omega) ?_
      | refine k_sub rfl rfl (by omega) ?_
      | refine k_mul rfl rfl (by omega) ?_
      | refine k_neg rfl (by omega) ?_
      | refine k_quo rfl rfl (by omega) ?_
      | refine k_rem rfl rfl (by omega) ?_
      | refine k_conv rfl (by omega) ?_
      | refine k_max rfl rfl ?_
      | refine k_min rfl rfl ?_
      | refine k_lssT rfl rfl (by omega) ?_
      | refine k_lssF rfl rfl (by omega) ?_
      | refine k_lss rfl rfl (fun hc => ?_) (fun hc => ?_)
      | refine k_leqT rfl rfl (by omega) ?_
      | refine k_leqF rfl rfl (by omega) ?_
      | refine k_leq rfl rfl (fun hc => ?_) (fun hc => ?_)
      | refine k_gtrT rfl rfl (by omega) ?_
      | refine k_gtrF rfl rfl (by omega) ?_
      | refine k_gtr rfl rfl (fun hc => ?_) (fun hc => ?_)
      | refine k_geqT rfl rfl (by omega) ?_
      | refine k_geqF rfl rfl (by omega) ?_
      | refine k_geq rfl rfl (fun hc => ?_) (fun hc => ?_)
      | refine k_eqlT rfl rfl (by omega) ?_
      | refine k_eqlF rfl rfl (by omega) ?_
      | refine k_eql rfl rfl (fun hc => ?_) (fun hc => ?_)
      | refine k_neqT rfl rfl (by omega) ?_
      | refine k_neqF rfl rfl (by omega) ?_
      | refine k_neq rfl rfl (fun hc => ?_) (fun hc => ?_)
      | refine k_len rfl rfl ?_
      | refine k_ok rfl rfl ?_))
  exact ⟨.inr rfl, rfl, e1.trans e2⟩
theorem call13f (h0 : Heap) (t : SV) (xs : List Int) (hs : IsInts h0 t xs) (hg : Good xs) (hl : 14 < xs.length) :
    ∃ v h', Cal FT HKt 13 [.sc t] h0 v h' ∧ v = .tup [.agg [.nilS, .nilS, .int .i64 0], .sc (.int .i64 5)] ∧ Ext h0 h' := by
  refine Cal.of (F := a13) rfl rfl rfl ?_
  repeat' (first
    | refine w_seq ?_
    | refine w_seqN ?_
    | refine w_seqX ?_
    | refine w_seqR ?_
    | refine w_blk ?_
    | refine w_blkN ?_
    | refine w_blkX ?_
    | refine w_blkR ?_
    | refine w_skip ?_
    | refine w_ret ?_
    | refine w_exit ?_
    | refine w_ops ?_
    | refine w_opsD ?_
    | refine d_one ?_
    | refine d_nil ?_
    | ((refine i_cond ?_); first | refine w_condT rfl ?_ | refine w_condF rfl ?_)
    | ((refine i_nil ?_); first | refine d_same ?_ | refine d_ord ?_ | refine d_ext ⟨_, rfl⟩ ?_ | refine d_ext (extA _ _ _) ?_ | refine d_ext (by assumption) ?_ | refine w_end0 ?_ | refine w_end1 rfl ?_ | refine w_end2 rfl rfl ?_ | refine w_end3 rfl rfl rfl ?_ | refine w_end4 rfl rfl rfl rfl ?_ | refine w_end5 rfl rfl rfl rfl rfl ?_ | refine w_end6 rfl rfl rfl rfl rfl rfl ?_ | refine w_end7 rfl rfl rfl rfl rfl rfl rfl ?_ | refine w_end8 rfl rfl rfl rfl rfl rfl rfl rfl ?_ | refine w_end9 rfl rfl rfl rfl rfl rfl rfl rfl rfl ?_ | refine w_end10 rfl rfl rfl rfl rfl rfl rfl rfl rfl rfl ?_ | refine w_end11 rfl rfl rfl rfl rfl rfl rfl rfl rfl rfl rfl ?_ | refine w_end12 rfl rfl rfl rfl rfl rfl rfl rfl rfl rfl rfl rfl ?_ | refine w_end13 rfl rfl rfl rfl rfl rfl rfl rfl rfl rfl rfl rfl rfl ?_ | refine w_end14 rfl rfl rfl rfl rfl rfl rfl rfl rfl rfl rfl rfl rfl rfl ?_ | refine w_end15 rfl rfl rfl rfl rfl rfl rfl rfl rfl rfl rfl rfl rfl rfl rfl ?_ | refine w_end16 rfl rfl rfl rfl rfl rfl rfl rfl rfl rfl rfl rfl rfl rfl rfl rfl ?_)
    | ((refine i_cons ?_); first
      | (refine k_new3 ?_; intro h1 e1 l1 c1)
      | (refine k_call rfl (call12f _ t xs (IsSl.ext hs e1) hg hl) ?_; rintro v h2 ⟨rfl, e2⟩; have c2 := c1.ext e2; have e3 := e1.trans e2)
      | refine k_bld rfl rfl ?_
      | (refine k_st3 rfl rfl c2 e3 (Nat.le_refl _) ?_; intro h4 e4 c4)
      | refine k_skip rfl ?_
      | refine k_skipU rfl ?_
      | refine k_want rfl ?_
      | refine k_mv rfl ?_
      | refine k_pickT rfl rfl ?_
      | refine k_pickF rfl rfl ?_
      | refine k_notT rfl ?_
      | refine k_notF rfl ?_
      | refine k_add rfl rfl (by omega) ?_
      | refine k_sub rfl rfl (by omega) ?_
      | refine k_mul rfl rfl (by omega) ?_
      | refine k_neg rfl (by omega) ?_
      | refine k_quo rfl rfl (by omega) ?_
      | refine k_rem rfl rfl (by omega) ?_
      | refine k_conv rfl (by omega) ?_
      | refine k_max rfl rfl ?_
      | refine k_min rfl rfl ?_
      | refine k_lssT rfl rfl (by omega) ?_
      | refine k_lssF rfl rfl (by omega) ?_
      | refine k_lss rfl rfl (fun hc => ?_) (fun hc => ?_)
      | refine k_leqT rfl rfl (by omega) ?_
      | refine k_leqF rfl rfl (by omega) ?_
      | refine k_leq rfl rfl (fun hc => ?_) (fun hc => ?_)
      | refine k_gtrT rfl rfl (by omega) ?_
      | refine k_gtrF rfl rfl (by omega) ?_
      | refine k_gtr rfl rfl (fun hc => ?_) (fun hc => ?_)
      | refine k_geqT rfl rfl (by omega) ?_
      | refine k_geqF rfl rfl (by omega) ?_
      | refine k_geq rfl rfl (fun hc => ?_) (fun hc => ?_)
      | refine k_eqlT rfl rfl (by omega) ?_
      | refine k_eqlF rfl rfl (by omega) ?_
      | refine k_eql rfl rfl (fun hc => ?_) (fun hc => ?_)
      | refine k_neqT rfl rfl (by omega) ?_
      | refine k_neqF rfl rfl (by omega) ?_
      | refine k_neq rfl rfl (fun hc => ?_) (fun hc => ?_)
      | refine k_len rfl rfl ?_
      | refine k_ok rfl rfl ?_))
  exact ⟨.inr rfl, oK_cellt rfl c4.read rfl ⟨rfl, e4⟩⟩

/-! ### The two loops -/
def I4a (h0 : Heap) (n : Nat) (E : Env) (h : Heap) : Prop := ∃ (i : Nat) (t : SV), i ≤ n ∧ Own h0 h t (ints (evl i)) ∧ Ext h0 h ∧
  E = [(3, some (.sc t)), (4, some (.sc (.int .i64 (n : Int)))), (5, some (.sc (.int .i64 ((i : Int) + 1))))]
def R4a (h0 : Heap) (n : Nat) (ex : Ex) (E : Env) (h : Heap) : Prop := ex = .ex 0 ∧ ∃ t a b c, Own h0 h t (ints (evl n)) ∧ Ext h0 h ∧ E = [(3, some (.sc t)), (4, a), (5, b), (24, c)]
theorem round4a (h0 : Heap) (n : Nat) (hn : n ≤ 64) (E : Env) (h : Heap) (hI : I4a h0 n E h) :
    wA FT HKt b4L0 (E.keep [3, 4, 5]) h (wRound (I4a h0 n) (cnt (n + 1) 5) (cnt (n + 1) 5 E h) (R4a h0 n)) := by
  obtain ⟨i, t, hi, ho, he, rfl⟩ := hI
  by_cases hlt : i < n
  · have hl := evl_len i
    repeat' (first
      | refine w_seq ?_
      | refine w_seqN ?_
      | refine w_seqX ?_
      | refine w_seqR ?_
      | refine w_blk ?_
      | refine w_blkN ?_
      | refine w_blkX ?_
      | refine w_blkR ?_
      | refine w_skip ?_
      | refine w_ret ?_
      | refine w_exit ?_
      | refine w_ops ?_
      | refine w_opsD ?_
      | refine d_one ?_
      | refine d_nil ?_
      | ((refine i_cond ?_); first | refine w_condT rfl ?_ | refine w_condF rfl ?_)
      | ((refine i_nil ?_); first | refine d_same ?_ | refine d_ord ?_ | refine d_ext ⟨_, rfl⟩ ?_ | refine d_ext (extA _ _ _) ?_ | refine d_ext (by assumption) ?_ | refine w_end0 ?_ | refine w_end1 rfl ?_ | refine w_end2 rfl rfl ?_ | refine w_end3 rfl rfl rfl ?_ | refine w_end4 rfl rfl rfl rfl ?_ | refine w_end5 rfl rfl rfl rfl rfl ?_ | refine w_end6 rfl rfl rfl rfl rfl rfl ?_ | refine w_end7 rfl rfl rfl rfl rfl rfl rfl ?_ | refine w_end8 rfl rfl rfl rfl rfl rfl rfl rfl ?_ | refine w_end9 rfl rfl rfl rfl rfl rfl rfl rfl rfl ?_ | refine w_end10 rfl rfl rfl rfl rfl rfl rfl rfl rfl rfl ?_ | refine w_end11 rfl rfl rfl rfl rfl rfl rfl rfl rfl rfl rfl ?_ | refine w_end12 rfl rfl rfl rfl rfl rfl rfl rfl rfl rfl rfl rfl ?_ | refine w_end13 rfl rfl rfl rfl rfl rfl rfl rfl rfl rfl rfl rfl rfl ?_ | refine w_end14 rfl rfl rfl rfl rfl rfl rfl rfl rfl rfl rfl rfl rfl rfl ?_ | refine w_end15 rfl rfl rfl rfl rfl rfl rfl rfl rfl rfl rfl rfl rfl rfl rfl ?_ | refine w_end16 rfl rfl rfl rfl rfl rfl rfl rfl rfl rfl rfl rfl rfl rfl rfl rfl ?_)
      | ((refine i_cons ?_); first
        | (refine k_push he ho rfl rfl (by simp [ints, bigN, hl]; omega) ?_; intro s1 h2 o1 e1 f1)
        | refine k_skip rfl ?_
        | refine k_skipU rfl ?_
        | refine k_want rfl ?_
        | refine k_mv rfl ?_
        | refine k_pickT rfl rfl ?_
        | refine k_pickF rfl rfl ?_
        | refine k_notT rfl ?_
        | refine k_notF rfl ?_
        | refine k_add rfl rfl (by omega) ?_
        | refine k_sub rfl rfl (by omega) ?_
        | refine k_mul rfl rfl (by omega) ?_
        | refine k_neg rfl (by omega) ?_
        | refine k_quo rfl rfl (by omega) ?_
        | refine k_rem rfl rfl (by omega) ?_
        | refine k_conv rfl (by omega) ?_
        | refine k_max rfl rfl ?_
        | refine k_min rfl rfl ?_
        | refine k_lssT rfl rfl (by omega) ?_
        | refine k_lssF rfl rfl (by omega) ?_
        | refine k_lss rfl rfl (fun hc => ?_) (fun hc => ?_)
        | refine k_leqT rfl rfl (by omega) ?_
        | refine k_leqF rfl rfl (by omega) ?_
        | refine k_leq rfl rfl (fun hc => ?_) (fun hc => ?_)
        | refine k_gtrT rfl rfl (by omega) ?_
        | refine k_gtrF rfl rfl (by omega) ?_
        | refine k_gtr rfl rfl (fun hc => ?_) (fun hc => ?_)
        | refine k_geqT rfl rfl (by omega) ?_
        | refine k_geqF rfl rfl (by omega) ?_
        | refine k_geq rfl rfl (fun hc => ?_) (fun hc => ?_)
        | refine k_eqlT rfl rfl (by omega) ?_
        | refine k_eqlF rfl rfl (by omega) ?_
        | refine k_eql rfl rfl (fun hc => ?_) (fun hc => ?_)
        | refine k_neqT rfl rfl (by omega) ?_
        | refine k_neqF rfl rfl (by omega) ?_
        | refine k_neq rfl rfl (fun hc => ?_) (fun hc => ?_)
        | refine k_len rfl rfl ?_
        | refine k_ok rfl rfl ?_))
    exact w_roundN ⟨i + 1, s1, by omega, by rw [evl_succ]; simpa [ints] using o1, e1, by simp⟩ (by simp [cnt, Env.get]; omega)
  · have : i = n := by omega
    subst this
    repeat' (first
      | refine w_seq ?_
      | refine w_seqN ?_
      | refine w_seqX ?_
      | refine w_seqR ?_
      | refine w_blk ?_
      | refine w_blkN ?_
      | refine w_blkX ?_
      | refine w_blkR ?_
      | refine w_skip ?_
      | refine w_ret ?_
      | refine w_exit ?_
      | refine w_ops ?_
      | refine w_opsD ?_
      | refine d_one ?_
      | refine d_nil ?_
      | ((refine i_cond ?_); first | refine w_condT rfl ?_ | refine w_condF rfl ?_)
      | ((refine i_nil ?_); first | refine d_same ?_ | refine d_ord ?_ | refine d_ext ⟨_, rfl⟩ ?_ | refine d_ext (extA _ _ _) ?_ | refine d_ext (by assumption) ?_ | refine w_end0 ?_ | refine w_end1 rfl ?_ | refine w_end2 rfl rfl ?_ | refine w_end3 rfl rfl rfl ?_ | refine w_end4 rfl rfl rfl rfl ?_ | refine w_end5 rfl rfl rfl rfl rfl ?_ | refine w_end6 rfl rfl rfl rfl rfl rfl ?_ | refine w_end7 rfl rfl rfl rfl rfl rfl rfl ?_ | refine w_end8 rfl rfl rfl rfl rfl rfl rfl rfl ?_ | refine w_end9 rfl rfl rfl rfl rfl rfl rfl rfl rfl ?_ | refine w_end10 rfl rfl rfl rfl rfl rfl rfl rfl rfl rfl ?_ | refine w_end11 rfl rfl rfl rfl rfl rfl rfl rfl rfl rfl rfl ?_ | refine w_end12 rfl rfl rfl rfl rfl rfl rfl rfl rfl rfl rfl rfl ?_ | refine w_end13 rfl rfl rfl rfl rfl rfl rfl rfl rfl rfl rfl rfl rfl ?_ | refine w_end14 rfl rfl rfl rfl rfl rfl rfl rfl rfl rfl rfl rfl rfl rfl ?_ | refine w_end15 rfl rfl rfl rfl rfl rfl rfl rfl rfl rfl rfl rfl rfl rfl rfl ?_ | refine w_end16 rfl rfl rfl rfl rfl rfl rfl rfl rfl rfl rfl rfl rfl rfl rfl rfl ?_)
      | ((refine i_cons ?_); first
        | refine k_skip rfl ?_
        | refine k_skipU rfl ?_
        | refine k_want rfl ?_
        | refine k_mv rfl ?_
        | refine k_pickT rfl rfl ?_
        | refine k_pickF rfl rfl ?_
        | refine k_notT rfl ?_
        | refine k_notF rfl ?_
        | refine k_add rfl rfl (by omega) ?_
        | refine k_sub rfl rfl (by omega) ?_
        | refine k_mul rfl rfl (by omega) ?_
        | refine k_neg rfl (by omega) ?_
        | refine k_quo rfl rfl (by omega) ?_
        | refine k_rem rfl rfl (by omega) ?_
        | refine k_conv rfl (by omega) ?_
        | refine k_max rfl rfl ?_
        | refine k_min rfl rfl ?_
        | refine k_lssT rfl rfl (by omega) ?_
        | refine k_lssF rfl rfl (by omega) ?_
        | refine k_lss rfl rfl (fun hc => ?_) (fun hc => ?_)
        | refine k_leqT rfl rfl (by omega) ?_
        | refine k_leqF rfl rfl (by omega) ?_
        | refine k_leq rfl rfl (fun hc => ?_) (fun hc => ?_)
        | refine k_gtrT rfl rfl (by omega) ?_
        | refine k_gtrF rfl rfl (by omega) ?_
        | refine k_gtr rfl rfl (fun hc => ?_) (fun hc => ?_)
        | refine k_geqT rfl rfl (by omega) ?_
        | refine k_geqF rfl rfl (by omega) ?_
        | refine k_geq rfl rfl (fun hc => ?_) (fun hc => ?_)
        | refine k_eqlT rfl rfl (by omega) ?_
        | refine k_eqlF rfl rfl (by omega) ?_
        | refine k_eql rfl rfl (fun hc => ?_) (fun hc => ?_)
        | refine k_neqT rfl rfl (by omega) ?_
        | refine k_neqF rfl rfl (by omega) ?_
        | refine k_neq rfl rfl (fun hc => ?_) (fun hc => ?_)
        | refine k_len rfl rfl ?_
        | refine k_ok rfl rfl ?_))
    exact w_roundX ⟨rfl, t, _, _, _, ho, he, rfl⟩
def I4b (h0 : Heap) (n : Nat) (E : Env) (h : Heap) : Prop := ∃ i : Nat, i ≤ n ∧ h = h0 ++ [bk n i] ∧
  E = [(7, some (.sc (.int .i64 5))), (9, some (.sc (.int .i64 5))), (10, some (.sc (.slc h0.length 0 n (some n)))), (11, some (.sc (.int .i64 (i : Int))))]
def R4b (h0 : Heap) (n : Nat) (ex : Ex) (E : Env) (h : Heap) : Prop := ex = .ex 2 ∧ h = h0 ++ [bk n n] ∧ ∃ a b, E = [(7, some (.sc (.int .i64 5))), (9, some (.sc (.int .i64 5))), (10, some (.sc (.slc h0.length 0 n (some n)))), (11, a), (46, b)]
theorem round4b (h0 : Heap) (n : Nat) (hn : n ≤ 1000000) (E : Env) (h : Heap) (hI : I4b h0 n E h) :
    wA FT HKt b4L1 (E.keep [7, 9, 10, 11]) h (wRound (I4b h0 n) (cnt n 11) (cnt n 11 E h) (R4b h0 n)) := by
  obtain ⟨i, hi, rfl, rfl⟩ := hI
  by_cases hlt : i < n
  · have hw := bk_wr h0 hlt
    repeat' (first
      | refine w_seq ?_
      | refine w_seqN ?_
      | refine w_seqX ?_
      | refine w_seqR ?_
      | refine w_blk ?_
      | refine w_blkN ?_
      | refine w_blkX ?_
      | refine w_blkR ?_
      | refine w_skip ?_
      | refine w_ret ?_
      | refine w_exit ?_
      | refine w_ops ?_
      | refine w_opsD ?_
      | refine d_one ?_
      | refine d_nil ?_
      | ((refine i_cond ?_); first | refine w_condT rfl ?_ | refine w_condF rfl ?_)
      | ((refine i_nil ?_); first | refine d_same ?_ | refine d_ord ?_ | refine d_ext ⟨_, rfl⟩ ?_ | refine d_ext (extA _ _ _) ?_ | refine d_ext (by assumption) ?_ | refine w_end0 ?_ | refine w_end1 rfl ?_ | refine w_end2 rfl rfl ?_ | refine w_end3 rfl rfl rfl ?_ | refine w_end4 rfl rfl rfl rfl ?_ | refine w_end5 rfl rfl rfl rfl rfl ?_ | refine w_end6 rfl rfl rfl rfl rfl rfl ?_ | refine w_end7 rfl rfl rfl rfl rfl rfl rfl ?_ | refine w_end8 rfl rfl rfl rfl rfl rfl rfl rfl ?_ | refine w_end9 rfl rfl rfl rfl rfl rfl rfl rfl rfl ?_ | refine w_end10 rfl rfl rfl rfl rfl rfl rfl rfl rfl rfl ?_ | refine w_end11 rfl rfl rfl rfl rfl rfl rfl rfl rfl rfl rfl ?_ | refine w_end12 rfl rfl rfl rfl rfl rfl rfl rfl rfl rfl rfl rfl ?_ | refine w_end13 rfl rfl rfl rfl rfl rfl rfl rfl rfl rfl rfl rfl rfl ?_ | refine w_end14 rfl rfl rfl rfl rfl rfl rfl rfl rfl rfl rfl rfl rfl rfl ?_ | refine w_end15 rfl rfl rfl rfl rfl rfl rfl rfl rfl rfl rfl rfl rfl rfl rfl ?_ | refine w_end16 rfl rfl rfl rfl rfl rfl rfl rfl rfl rfl rfl rfl rfl rfl rfl rfl ?_)
      | ((refine i_cons ?_); first
        | refine k_idxA rfl rfl (by omega) ?_
        | refine k_st2 rfl rfl hw ?_
        | refine k_skip rfl ?_
        | refine k_skipU rfl ?_
        | refine k_want rfl ?_
        | refine k_mv rfl ?_
        | refine k_pickT rfl rfl ?_
        | refine k_pickF rfl rfl ?_
        | refine k_notT rfl ?_
        | refine k_notF rfl ?_
        | refine k_add rfl rfl (by omega) ?_
        | refine k_sub rfl rfl (by omega) ?_
        | refine k_mul rfl rfl (by omega) ?_
        | refine k_neg rfl (by omega) ?_
        | refine k_quo rfl rfl (by omega) ?_
        | refine k_rem rfl rfl (by omega) ?_
        | refine k_conv rfl (by omega) ?_
        | refine k_max rfl rfl ?_
        | refine k_min rfl rfl ?_
        | refine k_lssT rfl rfl (by omega) ?_
        | refine k_lssF rfl rfl (by omega) ?_
        | refine k_lss rfl rfl (fun hc => ?_) (fun hc => ?_)
        | refine k_leqT rfl rfl (by omega) ?_
        | refine k_leqF rfl rfl (by omega) ?_
        | refine k_leq rfl rfl (fun hc => ?_) (fun hc => ?_)
        | refine k_gtrT rfl rfl (by omega) ?_
        | refine k_gtrF rfl rfl (by omega) ?_
        | refine k_gtr rfl rfl (fun hc => ?_) (fun hc => ?_)
        | refine k_geqT rfl rfl (by omega) ?_
        | refine k_geqF rfl rfl (by omega) ?_
        | refine k_geq rfl rfl (fun hc => ?_) (fun hc => ?_)
        | refine k_eqlT rfl rfl (by omega) ?_
        | refine k_eqlF rfl rfl (by omega) ?_
        | refine k_eql rfl rfl (fun hc => ?_) (fun hc => ?_)
        | refine k_neqT rfl rfl (by omega) ?_
        | refine k_neqF rfl rfl (by omega) ?_
        | refine k_neq rfl rfl (fun hc => ?_) (fun hc => ?_)
        | refine k_len rfl rfl ?_
        | refine k_ok rfl rfl ?_))
    exact w_roundN ⟨i + 1, by omega, rfl, rfl⟩ (by simp [cnt, Env.get]; omega)
  · have : i = n := by omega
    subst this
    repeat' (first
      | refine w_seq ?_
      | refine w_seqN ?_
      | refine w_seqX ?_
      | refine w_seqR ?_
      | refine w_blk ?_
      | refine w_blkN ?_
      | refine w_blkX ?_
      | refine w_blkR ?_
      | refine w_skip ?_
      | refine w_ret ?_
      | refine w_exit ?_
      | refine w_ops ?_
      | refine w_opsD ?_
      | refine d_one ?_
      | refine d_nil ?_
      | ((refine i_cond ?_); first | refine w_condT rfl ?_ | refine w_condF rfl ?_)
      | ((refine i_nil ?_); first | refine d_same ?_ | refine d_ord ?_ | refine d_ext ⟨_, rfl⟩ ?_ | refine d_ext (extA _ _ _) ?_ | refine d_ext (by assumption) ?_ | refine w_end0 ?_ | refine w_end1 rfl ?_ | refine w_end2 rfl rfl ?_ | refine w_end3 rfl rfl rfl ?_ | refine w_end4 rfl rfl rfl rfl ?_ | refine w_end5 rfl rfl rfl rfl rfl ?_ | refine w_end6 rfl rfl rfl rfl rfl rfl ?_ | refine w_end7 rfl rfl rfl rfl rfl rfl rfl ?_ | refine w_end8 rfl rfl rfl rfl rfl rfl rfl rfl ?_ | refine w_end9 rfl rfl rfl rfl rfl rfl rfl rfl rfl ?_ | refine w_end10 rfl rfl rfl rfl rfl rfl rfl rfl rfl rfl ?_ | refine w_end11 rfl rfl rfl rfl rfl rfl rfl rfl rfl rfl rfl ?_ | refine w_end12 rfl rfl rfl rfl rfl rfl rfl rfl rfl rfl rfl rfl ?_ | refine w_end13 rfl rfl rfl rfl rfl rfl rfl rfl rfl rfl rfl rfl rfl ?_ | refine w_end14 rfl rfl rfl rfl rfl rfl rfl rfl rfl rfl rfl rfl rfl rfl ?_ | refine w_end15 rfl rfl rfl rfl rfl rfl rfl rfl rfl rfl rfl rfl rfl rfl rfl ?_ | refine w_end16 rfl rfl rfl rfl rfl rfl rfl rfl rfl rfl rfl rfl rfl rfl rfl rfl ?_)
      | ((refine i_cons ?_); first
        | refine k_skip rfl ?_
        | refine k_skipU rfl ?_
        | refine k_want rfl ?_
        | refine k_mv rfl ?_
        | refine k_pickT rfl rfl ?_
        | refine k_pickF rfl rfl ?_
        | refine k_notT rfl ?_
        | refine k_notF rfl ?_
        | refine k_add rfl rfl (by omega) ?_
        | refine k_sub rfl rfl (by omega) ?_
        | refine k_mul rfl rfl (by omega) ?_
        | refine k_neg rfl (by omega) ?_
        | refine k_quo rfl rfl (by omega) ?_
        | refine k_rem rfl rfl (by omega) ?_
        | refine k_conv rfl (by omega) ?_
        | refine k_max rfl rfl ?_
        | refine k_min rfl rfl ?_
        | refine k_lssT rfl rfl (by omega) ?_
        | refine k_lssF rfl rfl (by omega) ?_
        | refine k_lss rfl rfl (fun hc => ?_) (fun hc => ?_)
        | refine k_leqT rfl rfl (by omega) ?_
        | refine k_leqF rfl rfl (by omega) ?_
        | refine k_leq rfl rfl (fun hc => ?_) (fun hc => ?_)
        | refine k_gtrT rfl rfl (by omega) ?_
        | refine k_gtrF rfl rfl (by omega) ?_
        | refine k_gtr rfl rfl (fun hc => ?_) (fun hc => ?_)
        | refine k_geqT rfl rfl (by omega) ?_
        | refine k_geqF rfl rfl (by omega) ?_
        | refine k_geq rfl rfl (fun hc => ?_) (fun hc => ?_)
        | refine k_eqlT rfl rfl (by omega) ?_
        | refine k_eqlF rfl rfl (by omega) ?_
        | refine k_eql rfl rfl (fun hc => ?_) (fun hc => ?_)
        | refine k_neqT rfl rfl (by omega) ?_
        | refine k_neqF rfl rfl (by omega) ?_
        | refine k_neq rfl rfl (fun hc => ?_) (fun hc => ?_)
        | refine k_len rfl rfl ?_
        | refine k_ok rfl rfl ?_))
    exact w_roundX ⟨rfl, rfl, _, _, rfl⟩

set_option maxHeartbeats 4000000 in
theorem full (h0 : Heap) (m : Int) (hm : 0 ≤ m ∧ m ≤ 255) : ∃ v h', Cal FT HKt 4 [.sc (.int .u8 m)] h0 v h' ∧ v = .sc (.bool true) := by
  refine Cal.of (F := a4) rfl rfl rfl ?_
  obtain ⟨n, hn, n1, n2⟩ : ∃ n : Nat, 15 + m % 20 = (n : Int) ∧ 15 ≤ n ∧ n ≤ 64 := ⟨(15 + m % 20).toNat, by omega, by omega, by omega⟩
  obtain ⟨A, hA, hA2⟩ : ∃ A : Nat, (65537 : Int) = (A : Int) ∧ A = 65537 := ⟨65537, rfl, rfl⟩
  obtain ⟨B, hB, hB2⟩ : ∃ B : Nat, (65536 : Int) = (B : Int) ∧ B = 65536 := ⟨65536, rfl, rfl⟩
  repeat' (first
    | refine w_seq ?_
    | refine w_seqN ?_
    | refine w_seqX ?_
    | refine w_seqR ?_
    | refine w_blk ?_
    | refine w_blkN ?_
    | refine w_blkX ?_
    | refine w_blkR ?_
    | refine w_skip ?_
    | refine w_ret ?_
    | refine w_exit ?_
    | refine w_ops ?_
    | refine w_opsD ?_
    | refine d_one ?_
    | refine d_nil ?_
    | ((refine i_cond ?_); first | refine w_condT rfl ?_ | refine w_condF rfl ?_)
    | ((refine i_nil ?_); first | refine d_same ?_ | refine d_ord ?_ | refine d_ext ⟨_, rfl⟩ ?_ | refine d_ext (extA _ _ _) ?_ | refine d_ext (by assumption) ?_ | refine w_end0 ?_ | refine w_end1 rfl ?_ | refine w_end2 rfl rfl ?_ | refine w_end3 rfl rfl rfl ?_ | refine w_end4 rfl rfl rfl rfl ?_ | refine w_end5 rfl rfl rfl rfl rfl ?_ | refine w_end6 rfl rfl rfl rfl rfl rfl ?_ | refine w_end7 rfl rfl rfl rfl rfl rfl rfl ?_ | refine w_end8 rfl rfl rfl rfl rfl rfl rfl rfl ?_ | refine w_end9 rfl rfl rfl rfl rfl rfl rfl rfl rfl ?_ | refine w_end10 rfl rfl rfl rfl rfl rfl rfl rfl rfl rfl ?_ | refine w_end11 rfl rfl rfl rfl rfl rfl rfl rfl rfl rfl rfl ?_ | refine w_end12 rfl rfl rfl rfl rfl rfl rfl rfl rfl rfl rfl rfl ?_ | refine w_end13 rfl rfl rfl rfl rfl rfl rfl rfl rfl rfl rfl rfl rfl ?_ | refine w_end14 rfl rfl rfl rfl rfl rfl rfl rfl rfl rfl rfl rfl rfl rfl ?_ | refine w_end15 rfl rfl rfl rfl rfl rfl rfl rfl rfl rfl rfl rfl rfl rfl rfl ?_ | refine w_end16 rfl rfl rfl rfl rfl rfl rfl rfl rfl rfl rfl rfl rfl rfl rfl rfl ?_)
    | ((refine i_cons ?_); first
      | (refine k_call rfl (awake_callT _) ?_; rintro v h' ⟨rfl, rfl⟩)
      | refine k_conv rfl (by omega) ?_
      | refine k_skip rfl ?_
      | refine k_skipU rfl ?_
      | refine k_want rfl ?_
      | refine k_mv rfl ?_
      | refine k_pickT rfl rfl ?_
      | refine k_pickF rfl rfl ?_
      | refine k_notT rfl ?_
      | refine k_notF rfl ?_
      | refine k_add rfl rfl (by omega) ?_
      | refine k_sub rfl rfl (by omega) ?_
      | refine k_mul rfl rfl (by omega) ?_
      | refine k_neg rfl (by omega) ?_
      | refine k_quo rfl rfl (by omega) ?_
      | refine k_rem rfl rfl (by omega) ?_
      | refine k_conv rfl (by omega) ?_
      | refine k_max rfl rfl ?_
      | refine k_min rfl rfl ?_
      | refine k_lssT rfl rfl (by omega) ?_
      | refine k_lssF rfl rfl (by omega) ?_
      | refine k_lss rfl rfl (fun hc => ?_) (fun hc => ?_)
      | refine k_leqT rfl rfl (by omega) ?_
      | refine k_leqF rfl rfl (by omega) ?_
      | refine k_leq rfl rfl (fun hc => ?_) (fun hc => ?_)
      | refine k_gtrT rfl rfl (by omega) ?_
      | refine k_gtrF rfl rfl (by omega) ?_
      | refine k_gtr rfl rfl (fun hc => ?_) (fun hc => ?_)
      | refine k_geqT rfl rfl (by omega) ?_
      | refine k_geqF rfl rfl (by omega) ?_
      | refine k_geq rfl rfl (fun hc => ?_) (fun hc => ?_)
      | refine k_eqlT rfl rfl (by omega) ?_
      | refine k_eqlF rfl rfl (by omega) ?_
      | refine k_eql rfl rfl (fun hc => ?_) (fun hc => ?_)
      | refine k_neqT rfl rfl (by omega) ?_
      | refine k_neqF rfl rfl (by omega) ?_
      | refine k_neq rfl rfl (fun hc => ?_) (fun hc => ?_)
      | refine k_len rfl rfl ?_
      | refine k_ok rfl rfl ?_))
  rw [hn]
  refine w_loop (I4a _ n) (cnt (n + 1) 5) (R4a _ n) ⟨0, .nilS, Nat.zero_le _, .inl ⟨rfl, rfl⟩, Ext.refl _, rfl⟩ (round4a _ n n2) ?_
  rintro ex E' h1 ⟨rfl, t, a, b, c, ho, he, rfl⟩
  have hi := Ab.Own.ids ho
  have hg := evl_good (by omega) n2
  have hl : 14 < (evl n).length := by rw [evl_len]; omega
  repeat' (first
    | refine w_seq ?_
    | refine w_seqN ?_
    | refine w_seqX ?_
    | refine w_seqR ?_
    | refine w_blk ?_
    | refine w_blkN ?_
    | refine w_blkX ?_
    | refine w_blkR ?_
    | refine w_skip ?_
    | refine w_ret ?_
    | refine w_exit ?_
    | refine w_ops ?_
    | refine w_opsD ?_
    | refine d_one ?_
    | refine d_nil ?_
    | ((refine i_cond ?_); first | refine w_condT rfl ?_ | refine w_condF rfl ?_)
    | ((refine i_nil ?_); first | refine d_same ?_ | refine d_ord ?_ | refine d_ext ⟨_, rfl⟩ ?_ | refine d_ext (extA _ _ _) ?_ | refine d_ext (by assumption) ?_ | refine w_end0 ?_ | refine w_end1 rfl ?_ | refine w_end2 rfl rfl ?_ | refine w_end3 rfl rfl rfl ?_ | refine w_end4 rfl rfl rfl rfl ?_ | refine w_end5 rfl rfl rfl rfl rfl ?_ | refine w_end6 rfl rfl rfl rfl rfl rfl ?_ | refine w_end7 rfl rfl rfl rfl rfl rfl rfl ?_ | refine w_end8 rfl rfl rfl rfl rfl rfl rfl rfl ?_ | refine w_end9 rfl rfl rfl rfl rfl rfl rfl rfl rfl ?_ | refine w_end10 rfl rfl rfl rfl rfl rfl rfl rfl rfl rfl ?_ | refine w_end11 rfl rfl rfl rfl rfl rfl rfl rfl rfl rfl rfl ?_ | refine w_end12 rfl rfl rfl rfl rfl rfl rfl rfl rfl rfl rfl rfl ?_ | refine w_end13 rfl rfl rfl rfl rfl rfl rfl rfl rfl rfl rfl rfl rfl ?_ | refine w_end14 rfl rfl rfl rfl rfl rfl rfl rfl rfl rfl rfl rfl rfl rfl ?_ | refine w_end15 rfl rfl rfl rfl rfl rfl rfl rfl rfl rfl rfl rfl rfl rfl rfl ?_ | refine w_end16 rfl rfl rfl rfl rfl rfl rfl rfl rfl rfl rfl rfl rfl rfl rfl rfl ?_)
    | ((refine i_cons ?_); first
      | (refine k_call rfl (call12f _ t _ hi hg hl) ?_; rintro v h2 ⟨rfl, e2⟩; have i2 := IsSl.ext hi e2)
      | (refine k_call rfl (call13f _ t _ i2 hg hl) ?_; rintro v h3 ⟨rfl, e3⟩)
      | (refine k_new3 ?_; intro h4 e4 l4 c4)
      | (refine k_st3 rfl rfl c4 e4 (Nat.le_refl _) ?_; intro h5 e5 c5)
      | refine k_mkB rfl rfl hA (by omega) ?_
      | refine k_skip rfl ?_
      | refine k_skipU rfl ?_
      | refine k_want rfl ?_
      | refine k_mv rfl ?_
      | refine k_pickT rfl rfl ?_
      | refine k_pickF rfl rfl ?_
      | refine k_notT rfl ?_
      | refine k_notF rfl ?_
      | refine k_add rfl rfl (by omega) ?_
      | refine k_sub rfl rfl (by omega) ?_
      | refine k_mul rfl rfl (by omega) ?_
      | refine k_neg rfl (by omega) ?_
      | refine k_quo rfl rfl (by omega) ?_
      | refine k_rem rfl rfl (by omega) ?_
      | refine k_conv rfl (by omega) ?_
      | refine k_max rfl rfl ?_
      | refine k_min rfl rfl ?_
      | refine k_lssT rfl rfl (by omega) ?_
      | refine k_lssF rfl rfl (by omega) ?_
      | refine k_lss rfl rfl (fun hc => ?_) (fun hc => ?_)
      | refine k_leqT rfl rfl (by omega) ?_
      | refine k_leqF rfl rfl (by omega) ?_
      | refine k_leq rfl rfl (fun hc => ?_) (fun hc => ?_)
      | refine k_gtrT rfl rfl (by omega) ?_
      | refine k_gtrF rfl rfl (by omega) ?_
      | refine k_gtr rfl rfl (fun hc => ?_) (fun hc => ?_)
      | refine k_geqT rfl rfl (by omega) ?_
      | refine k_geqF rfl rfl (by omega) ?_
      | refine k_geq rfl rfl (fun hc => ?_) (fun hc => ?_)
      | refine k_eqlT rfl rfl (by omega) ?_
      | refine k_eqlF rfl rfl (by omega) ?_
      | refine k_eql rfl rfl (fun hc => ?_) (fun hc => ?_)
      | refine k_neqT rfl rfl (by omega) ?_
      | refine k_neqF rfl rfl (by omega) ?_
      | refine k_neq rfl rfl (fun hc => ?_) (fun hc => ?_)
      | refine k_len rfl rfl ?_
      | refine k_ok rfl rfl ?_))
  refine w_loop (I4b _ A) (cnt A 11) (R4b _ A) ⟨0, Nat.zero_le _, rfl, rfl⟩ (round4b _ A (by omega)) ?_
  rintro ex E' h6 ⟨rfl, rfl, a, b, rfl⟩
  have r1 := bk_rd h5 (Nat.le_refl A)
  have r2 := fun (t : Heap) => bk_rd h5 (show B ≤ A by omega)
  have k1 := fun h => call7f h (List.replicate A 50) (by rw [List.length_replicate]; omega)
  have k2 := fun h => call7 h (List.replicate B 50) (by rw [List.length_replicate]; omega)
  rw [parse_none (by omega)] at k2
  repeat' (first
    | refine w_seq ?_
    | refine w_seqN ?_
    | refine w_seqX ?_
    | refine w_seqR ?_
    | refine w_blk ?_
    | refine w_blkN ?_
    | refine w_blkX ?_
    | refine w_blkR ?_
    | refine w_skip ?_
    | refine w_ret ?_
    | refine w_exit ?_
    | refine w_ops ?_
    | refine w_opsD ?_
    | refine d_one ?_
    | refine d_nil ?_
    | ((refine i_cond ?_); first | refine w_condT rfl ?_ | refine w_condF rfl ?_)
    | ((refine i_nil ?_); first | refine d_same ?_ | refine d_ord ?_ | refine d_ext ⟨_, rfl⟩ ?_ | refine d_ext (extA _ _ _) ?_ | refine d_ext (by assumption) ?_ | refine w_end0 ?_ | refine w_end1 rfl ?_ | refine w_end2 rfl rfl ?_ | refine w_end3 rfl rfl rfl ?_ | refine w_end4 rfl rfl rfl rfl ?_ | refine w_end5 rfl rfl rfl rfl rfl ?_ | refine w_end6 rfl rfl rfl rfl rfl rfl ?_ | refine w_end7 rfl rfl rfl rfl rfl rfl rfl ?_ | refine w_end8 rfl rfl rfl rfl rfl rfl rfl rfl ?_ | refine w_end9 rfl rfl rfl rfl rfl rfl rfl rfl rfl ?_ | refine w_end10 rfl rfl rfl rfl rfl rfl rfl rfl rfl rfl ?_ | refine w_end11 rfl rfl rfl rfl rfl rfl rfl rfl rfl rfl rfl ?_ | refine w_end12 rfl rfl rfl rfl rfl rfl rfl rfl rfl rfl rfl rfl ?_ | refine w_end13 rfl rfl rfl rfl rfl rfl rfl rfl rfl rfl rfl rfl rfl ?_ | refine w_end14 rfl rfl rfl rfl rfl rfl rfl rfl rfl rfl rfl rfl rfl rfl ?_ | refine w_end15 rfl rfl rfl rfl rfl rfl rfl rfl rfl rfl rfl rfl rfl rfl rfl ?_ | refine w_end16 rfl rfl rfl rfl rfl rfl rfl rfl rfl rfl rfl rfl rfl rfl rfl rfl ?_)
    | ((refine i_cons ?_); first
      | refine k_cbs rfl (by omega) r1 ?_
      | refine k_cbs rfl (by omega) (r2 []) ?_
      | (refine k_call rfl (k1 _) ?_; rintro v h' ⟨rfl, rfl⟩)
      | refine k_toN rfl rfl hB (by omega) ?_
      | (refine k_call rfl (k2 _) ?_; rintro v h7 ⟨e7, rfl⟩)
      | refine k_skip rfl ?_
      | refine k_skipU rfl ?_
      | refine k_want rfl ?_
      | refine k_mv rfl ?_
      | refine k_pickT rfl rfl ?_
      | refine k_pickF rfl rfl ?_
      | refine k_notT rfl ?_
      | refine k_notF rfl ?_
      | refine k_add rfl rfl (by omega) ?_
      | refine k_sub rfl rfl (by omega) ?_
      | refine k_mul rfl rfl (by omega) ?_
      | refine k_neg rfl (by omega) ?_
      | refine k_quo rfl rfl (by omega) ?_
      | refine k_rem rfl rfl (by omega) ?_
      | refine k_conv rfl (by omega) ?_
      | refine k_max rfl rfl ?_
      | refine k_min rfl rfl ?_
      | refine k_lssT rfl rfl (by omega) ?_
      | refine k_lssF rfl rfl (by omega) ?_
      | refine k_lss rfl rfl (fun hc => ?_) (fun hc => ?_)
      | refine k_leqT rfl rfl (by omega) ?_
      | refine k_leqF rfl rfl (by omega) ?_
      | refine k_leq rfl rfl (fun hc => ?_) (fun hc => ?_)
      | refine k_gtrT rfl rfl (by omega) ?_
      | refine k_gtrF rfl rfl (by omega) ?_
      | refine k_gtr rfl rfl (fun hc => ?_) (fun hc => ?_)
      | refine k_geqT rfl rfl (by omega) ?_
      | refine k_geqF rfl rfl (by omega) ?_
      | refine k_geq rfl rfl (fun hc => ?_) (fun hc => ?_)
      | refine k_eqlT rfl rfl (by omega) ?_
      | refine k_eqlF rfl rfl (by omega) ?_
      | refine k_eql rfl rfl (fun hc => ?_) (fun hc => ?_)
      | refine k_neqT rfl rfl (by omega) ?_
      | refine k_neqF rfl rfl (by omega) ?_
      | refine k_neq rfl rfl (fun hc => ?_) (fun hc => ?_)
      | refine k_len rfl rfl ?_
      | refine k_ok rfl rfl ?_))
  exact ⟨.inr rfl, rfl⟩
end Go.Proofs.YtooafhbjbpaacaaDoor
