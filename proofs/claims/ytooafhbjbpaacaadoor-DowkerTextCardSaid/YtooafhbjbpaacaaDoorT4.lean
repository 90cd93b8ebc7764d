/- The law DowkerText, reckoned. -/
import Derived.Test.YtooafhbjbpaacaaDoorT3
import Derived.Test.YtooafhbjbpaacaaDoorT5
namespace Go.Proofs.YtooafhbjbpaacaaDoor
open Go.Ab
set_option linter.unusedVariables false
set_option linter.unusedSimpArgs false
set_option maxRecDepth 20000
attribute [local irreducible] wOps wA wSeq wBlk wRound wOpsD

def In61 (x : Int) : Prop := -2305843009213693952 ≤ x ∧ x ≤ 2305843009213693952
def I3 (h0 : Heap) (s : SV) (b : AV) (xs : List Int) (E : Env) (h : Heap) : Prop := ∃ i : Nat, i ≤ xs.length ∧ h = h0 ∧ (∀ x ∈ xs.take i, In61 x) ∧
  E = [(0, some (.sc s)), (1, some b), (5, some (.sc (.int .i64 i)))]
def R3 (h0 : Heap) (s : SV) (b : AV) (xs : List Int) (ex : Ex) (E : Env) (h : Heap) : Prop := h = h0 ∧ match ex with
  | .rt => E = [(4, some (.sc (.bool true)))]
  | .ex i => i = 0 ∧ (∀ x ∈ xs, In61 x) ∧ ∃ c d, E = [(0, some (.sc s)), (1, some b), (5, c), (26, d)]
  | .nm => False
theorem round3 (h0 : Heap) (s : SV) (b : AV) (xs : List Int) (hs : IsInts h0 s xs) (hb : xs.length ≤ 80) (E : Env) (h : Heap) (hI : I3 h0 s b xs E h) :
    wA FT HKt b3L0 (E.keep [0, 1, 5]) h (wRound (I3 h0 s b xs) (cnt xs.length 5) (cnt xs.length 5 E h) (R3 h0 s b xs)) := by
  obtain ⟨i, hi, rfl, he, rfl⟩ := hI
  have hln := IsSl.len hs
  by_cases hlt : i < xs.length
  · obtain ⟨x, hx⟩ : ∃ x, xs[i]? = some x := ⟨_, List.getElem?_eq_getElem hlt⟩
    obtain ⟨id, off, cap, rfl, hrd⟩ := IsInts.at hs hx
    by_cases h1 : x < -2305843009213693952
    · repeat' (first
   | refine w_seq ?_
   | refine w_seqN ?_
   | refine w_seqX ?_
   | refine w_seqR ?_
   | refine w_blk ?_
   | refine w_blkN ?_
   | refine w_blkX ?_
   | refine w_blkR ?_
   | refine w_skip ?_
   | refine w_ret ?_
   | refine w_exit ?_
   | refine w_ops ?_
   | refine w_opsD ?_
   | refine d_one ?_
   | refine d_nil ?_
   | ((refine i_cond ?_); first | refine w_condT rfl ?_ | refine w_condF rfl ?_)
   | ((refine i_nil ?_); first | refine d_same ?_ | refine d_ord ?_ | refine d_ext ⟨_, rfl⟩ ?_ | refine d_ext (extA _ _ _) ?_ | refine d_ext (by assumption) ?_ | refine w_end0 ?_ | refine w_end1 rfl ?_ | refine w_end2 rfl rfl ?_ | refine w_end3 rfl rfl rfl ?_ | refine w_end4 rfl rfl rfl rfl ?_ | refine w_end5 rfl rfl rfl rfl rfl ?_ | refine w_end6 rfl rfl rfl rfl rfl rfl ?_ | refine w_end7 rfl rfl rfl rfl rfl rfl rfl ?_ | refine w_end8 rfl rfl rfl rfl rfl rfl rfl rfl ?_ | refine w_end9 rfl rfl rfl rfl rfl rfl rfl rfl rfl ?_ | refine w_end10 rfl rfl rfl rfl rfl rfl rfl rfl rfl rfl ?_ | refine w_end11 rfl rfl rfl rfl rfl rfl rfl rfl rfl rfl rfl ?_ | refine w_end12 rfl rfl rfl rfl rfl rfl rfl rfl rfl rfl rfl rfl ?_ | refine w_end13 rfl rfl rfl rfl rfl rfl rfl rfl rfl rfl rfl rfl rfl ?_ | refine w_end14 rfl rfl rfl rfl rfl rfl rfl rfl rfl rfl rfl rfl rfl rfl ?_ | refine w_end15 rfl rfl rfl rfl rfl rfl rfl rfl rfl rfl rfl rfl rfl rfl rfl ?_ | refine w_end16 rfl rfl rfl rfl rfl rfl rfl rfl rfl rfl rfl rfl rfl rfl rfl rfl ?_)
   | ((refine i_cons ?_); first
     | refine k_len rfl hln ?_
     | refine k_idxA rfl rfl (by omega) ?_
     | refine k_ld rfl hrd ?_
     | refine k_skip rfl ?_
     | refine k_skipU rfl ?_
     | refine k_want rfl ?_
     | refine k_mv rfl ?_
     | refine k_pickT rfl rfl ?_
     | refine k_pickF rfl rfl ?_
     | refine k_notT rfl ?_
     | refine k_notF rfl ?_
     | refine k_add rfl rfl (by omega) ?_
     | refine k_sub rfl rfl (by omega) ?_
     | refine k_mul rfl rfl (by omega) ?_
     | refine k_neg rfl (by omega) ?_
     | refine k_quo rfl rfl (by omega) ?_
     | refine k_rem rfl rfl (by omega) ?_
     | refine k_conv rfl (by omega) ?_
     | refine k_max rfl rfl ?_
     | refine k_min rfl rfl ?_
     | refine k_lssT rfl rfl (by omega) ?_
     | refine k_lssF rfl rfl (by omega) ?_
     | refine k_lss rfl rfl (fun hc => ?_) (fun hc => ?_)
     | refine k_leqT rfl rfl (by omega) ?_
     | refine k_leqF rfl rfl (by omega) ?_
     | refine k_leq rfl rfl (fun hc => ?_) (fun hc => ?_)
     | refine k_gtrT rfl rfl (by omega) ?_
     | refine k_gtrF rfl rfl (by omega) ?_
     | refine k_gtr rfl rfl (fun hc => ?_) (fun hc => ?_)
     | refine k_geqT rfl rfl (by omega) ?_
     | refine k_geqF rfl rfl (by omega) ?_
     | refine k_geq rfl rfl (fun hc => ?_) (fun hc => ?_)
     | refine k_eqlT rfl rfl (by omega) ?_
     | refine k_eqlF rfl rfl (by omega) ?_
     | refine k_eql rfl rfl (fun hc => ?_) (fun hc => ?_)
     | refine k_neqT rfl rfl (by omega) ?_
     | refine k_neqF rfl rfl (by omega) ?_
     | refine k_neq rfl rfl (fun hc => ?_) (fun hc => ?_)
     | refine k_len rfl rfl ?_
     | refine k_ok rfl rfl ?_))
      exact w_roundR ⟨rfl, rfl⟩
    · by_cases h2 : 2305843009213693952 < x
      · repeat' (first
   | refine w_seq ?_
   | refine w_seqN ?_
   | refine w_seqX ?_
   | refine w_seqR ?_
   | refine w_blk ?_
   | refine w_blkN ?_
   | refine w_blkX ?_
   | refine w_blkR ?_
   | refine w_skip ?_
   | refine w_ret ?_
   | refine w_exit ?_
   | refine w_ops ?_
   | refine w_opsD ?_
   | refine d_one ?_
   | refine d_nil ?_
   | ((refine i_cond ?_); first | refine w_condT rfl ?_ | refine w_condF rfl ?_)
   | ((refine i_nil ?_); first | refine d_same ?_ | refine d_ord ?_ | refine d_ext ⟨_, rfl⟩ ?_ | refine d_ext (extA _ _ _) ?_ | refine d_ext (by assumption) ?_ | refine w_end0 ?_ | refine w_end1 rfl ?_ | refine w_end2 rfl rfl ?_ | refine w_end3 rfl rfl rfl ?_ | refine w_end4 rfl rfl rfl rfl ?_ | refine w_end5 rfl rfl rfl rfl rfl ?_ | refine w_end6 rfl rfl rfl rfl rfl rfl ?_ | refine w_end7 rfl rfl rfl rfl rfl rfl rfl ?_ | refine w_end8 rfl rfl rfl rfl rfl rfl rfl rfl ?_ | refine w_end9 rfl rfl rfl rfl rfl rfl rfl rfl rfl ?_ | refine w_end10 rfl rfl rfl rfl rfl rfl rfl rfl rfl rfl ?_ | refine w_end11 rfl rfl rfl rfl rfl rfl rfl rfl rfl rfl rfl ?_ | refine w_end12 rfl rfl rfl rfl rfl rfl rfl rfl rfl rfl rfl rfl ?_ | refine w_end13 rfl rfl rfl rfl rfl rfl rfl rfl rfl rfl rfl rfl rfl ?_ | refine w_end14 rfl rfl rfl rfl rfl rfl rfl rfl rfl rfl rfl rfl rfl rfl ?_ | refine w_end15 rfl rfl rfl rfl rfl rfl rfl rfl rfl rfl rfl rfl rfl rfl rfl ?_ | refine w_end16 rfl rfl rfl rfl rfl rfl rfl rfl rfl rfl rfl rfl rfl rfl rfl rfl ?_)
   | ((refine i_cons ?_); first
     | refine k_len rfl hln ?_
     | refine k_idxA rfl rfl (by omega) ?_
     | refine k_ld rfl hrd ?_
     | refine k_skip rfl ?_
     | refine k_skipU rfl ?_
     | refine k_want rfl ?_
     | refine k_mv rfl ?_
     | refine k_pickT rfl rfl ?_
     | refine k_pickF rfl rfl ?_
     | refine k_notT rfl ?_
     | refine k_notF rfl ?_
     | refine k_add rfl rfl (by omega) ?_
     | refine k_sub rfl rfl (by omega) ?_
     | refine k_mul rfl rfl (by omega) ?_
     | refine k_neg rfl (by omega) ?_
     | refine k_quo rfl rfl (by omega) ?_
     | refine k_rem rfl rfl (by omega) ?_
     | refine k_conv rfl (by omega) ?_
     | refine k_max rfl rfl ?_
     | refine k_min rfl rfl ?_
     | refine k_lssT rfl rfl (by omega) ?_
     | refine k_lssF rfl rfl (by omega) ?_
     | refine k_lss rfl rfl (fun hc => ?_) (fun hc => ?_)
     | refine k_leqT rfl rfl (by omega) ?_
     | refine k_leqF rfl rfl (by omega) ?_
     | refine k_leq rfl rfl (fun hc => ?_) (fun hc => ?_)
     | refine k_gtrT rfl rfl (by omega) ?_
     | refine k_gtrF rfl rfl (by omega) ?_
     | refine k_gtr rfl rfl (fun hc => ?_) (fun hc => ?_)
     | refine k_geqT rfl rfl (by omega) ?_
     | refine k_geqF rfl rfl (by omega) ?_
     | refine k_geq rfl rfl (fun hc => ?_) (fun hc => ?_)
     | refine k_eqlT rfl rfl (by omega) ?_
     | refine k_eqlF rfl rfl (by omega) ?_
     | refine k_eql rfl rfl (fun hc => ?_) (fun hc => ?_)
     | refine k_neqT rfl rfl (by omega) ?_
     | refine k_neqF rfl rfl (by omega) ?_
     | refine k_neq rfl rfl (fun hc => ?_) (fun hc => ?_)
     | refine k_len rfl rfl ?_
     | refine k_ok rfl rfl ?_))
        exact w_roundR ⟨rfl, rfl⟩
      · have he' : ∀ y ∈ xs.take (i + 1), In61 y := fun y hy => by
          rw [take_snoc hx] at hy
          rcases List.mem_append.1 hy with hy | hy
          · exact he y hy
          · simp only [List.mem_singleton] at hy; subst hy; unfold In61; omega
        repeat' (first
          | refine w_seq ?_
          | refine w_seqN ?_
          | refine w_seqX ?_
          | refine w_seqR ?_
          | refine w_blk ?_
          | refine w_blkN ?_
          | refine w_blkX ?_
          | refine w_blkR ?_
          | refine w_skip ?_
          | refine w_ret ?_
          | refine w_exit ?_
          | refine w_ops ?_
          | refine w_opsD ?_
          | refine d_one ?_
          | refine d_nil ?_
          | ((refine i_cond ?_); first | refine w_condT rfl ?_ | refine w_condF rfl ?_)
          | ((refine i_nil ?_); first | refine d_same ?_ | refine d_ord ?_ | refine d_ext ⟨_, rfl⟩ ?_ | refine d_ext (extA _ _ _) ?_ | refine d_ext (by assumption) ?_ | refine w_end0 ?_ | refine w_end1 rfl ?_ | refine w_end2 rfl rfl ?_ | refine w_end3 rfl rfl rfl ?_ | refine w_end4 rfl rfl rfl rfl ?_ | refine w_end5 rfl rfl rfl rfl rfl ?_ | refine w_end6 rfl rfl rfl rfl rfl rfl ?_ | refine w_end7 rfl rfl rfl rfl rfl rfl rfl ?_ | refine w_end8 rfl rfl rfl rfl rfl rfl rfl rfl ?_ | refine w_end9 rfl rfl rfl rfl rfl rfl rfl rfl rfl ?_ | refine w_end10 rfl rfl rfl rfl rfl rfl rfl rfl rfl rfl ?_ | refine w_end11 rfl rfl rfl rfl rfl rfl rfl rfl rfl rfl rfl ?_ | refine w_end12 rfl rfl rfl rfl rfl rfl rfl rfl rfl rfl rfl rfl ?_ | refine w_end13 rfl rfl rfl rfl rfl rfl rfl rfl rfl rfl rfl rfl rfl ?_ | refine w_end14 rfl rfl rfl rfl rfl rfl rfl rfl rfl rfl rfl rfl rfl rfl ?_ | refine w_end15 rfl rfl rfl rfl rfl rfl rfl rfl rfl rfl rfl rfl rfl rfl rfl ?_ | refine w_end16 rfl rfl rfl rfl rfl rfl rfl rfl rfl rfl rfl rfl rfl rfl rfl rfl ?_)
          | ((refine i_cons ?_); first
            | refine k_len rfl hln ?_
            | refine k_idxA rfl rfl (by omega) ?_
            | refine k_ld rfl hrd ?_
            | refine k_skip rfl ?_
            | refine k_skipU rfl ?_
            | refine k_want rfl ?_
            | refine k_mv rfl ?_
            | refine k_pickT rfl rfl ?_
            | refine k_pickF rfl rfl ?_
            | refine k_notT rfl ?_
            | refine k_notF rfl ?_
            | refine k_add rfl rfl (by omega) ?_
            | refine k_sub rfl rfl (by omega) ?_
            | refine k_mul rfl rfl (by omega) ?_
            | refine k_neg rfl (by omega) ?_
            | refine k_quo rfl rfl (by omega) ?_
            | refine k_rem rfl rfl (by omega) ?_
            | refine k_conv rfl (by omega) ?_
            | refine k_max rfl rfl ?_
            | refine k_min rfl rfl ?_
            | refine k_lssT rfl rfl (by omega) ?_
            | refine k_lssF rfl rfl (by omega) ?_
            | refine k_lss rfl rfl (fun hc => ?_) (fun hc => ?_)
            | refine k_leqT rfl rfl (by omega) ?_
            | refine k_leqF rfl rfl (by omega) ?_
            | refine k_leq rfl rfl (fun hc => ?_) (fun hc => ?_)
            | refine k_gtrT rfl rfl (by omega) ?_
            | refine k_gtrF rfl rfl (by omega) ?_
            | refine k_gtr rfl rfl (fun hc => ?_) (fun hc => ?_)
            | refine k_geqT rfl rfl (by omega) ?_
            | refine k_geqF rfl rfl (by omega) ?_
            | refine k_geq rfl rfl (fun hc => ?_) (fun hc => ?_)
            | refine k_eqlT rfl rfl (by omega) ?_
            | refine k_eqlF rfl rfl (by omega) ?_
            | refine k_eql rfl rfl (fun hc => ?_) (fun hc => ?_)
            | refine k_neqT rfl rfl (by omega) ?_
            | refine k_neqF rfl rfl (by omega) ?_
            | refine k_neq rfl rfl (fun hc => ?_) (fun hc => ?_)
            | refine k_len rfl rfl ?_
            | refine k_ok rfl rfl ?_))
        exact w_roundN ⟨i + 1, by omega, rfl, he', rfl⟩ (by simp [cnt, Env.get]; omega)
  · rw [List.take_of_length_le (by omega)] at he
    repeat' (first
      | refine w_seq ?_
      | refine w_seqN ?_
      | refine w_seqX ?_
      | refine w_seqR ?_
      | refine w_blk ?_
      | refine w_blkN ?_
      | refine w_blkX ?_
      | refine w_blkR ?_
      | refine w_skip ?_
      | refine w_ret ?_
      | refine w_exit ?_
      | refine w_ops ?_
      | refine w_opsD ?_
      | refine d_one ?_
      | refine d_nil ?_
      | ((refine i_cond ?_); first | refine w_condT rfl ?_ | refine w_condF rfl ?_)
      | ((refine i_nil ?_); first | refine d_same ?_ | refine d_ord ?_ | refine d_ext ⟨_, rfl⟩ ?_ | refine d_ext (extA _ _ _) ?_ | refine d_ext (by assumption) ?_ | refine w_end0 ?_ | refine w_end1 rfl ?_ | refine w_end2 rfl rfl ?_ | refine w_end3 rfl rfl rfl ?_ | refine w_end4 rfl rfl rfl rfl ?_ | refine w_end5 rfl rfl rfl rfl rfl ?_ | refine w_end6 rfl rfl rfl rfl rfl rfl ?_ | refine w_end7 rfl rfl rfl rfl rfl rfl rfl ?_ | refine w_end8 rfl rfl rfl rfl rfl rfl rfl rfl ?_ | refine w_end9 rfl rfl rfl rfl rfl rfl rfl rfl rfl ?_ | refine w_end10 rfl rfl rfl rfl rfl rfl rfl rfl rfl rfl ?_ | refine w_end11 rfl rfl rfl rfl rfl rfl rfl rfl rfl rfl rfl ?_ | refine w_end12 rfl rfl rfl rfl rfl rfl rfl rfl rfl rfl rfl rfl ?_ | refine w_end13 rfl rfl rfl rfl rfl rfl rfl rfl rfl rfl rfl rfl rfl ?_ | refine w_end14 rfl rfl rfl rfl rfl rfl rfl rfl rfl rfl rfl rfl rfl rfl ?_ | refine w_end15 rfl rfl rfl rfl rfl rfl rfl rfl rfl rfl rfl rfl rfl rfl rfl ?_ | refine w_end16 rfl rfl rfl rfl rfl rfl rfl rfl rfl rfl rfl rfl rfl rfl rfl rfl ?_)
      | ((refine i_cons ?_); first
        | refine k_len rfl hln ?_
        | refine k_skip rfl ?_
        | refine k_skipU rfl ?_
        | refine k_want rfl ?_
        | refine k_mv rfl ?_
        | refine k_pickT rfl rfl ?_
        | refine k_pickF rfl rfl ?_
        | refine k_notT rfl ?_
        | refine k_notF rfl ?_
        | refine k_add rfl rfl (by omega) ?_
        | refine k_sub rfl rfl (by omega) ?_
        | refine k_mul rfl rfl (by omega) ?_
        | refine k_neg rfl (by omega) ?_
        | refine k_quo rfl rfl (by omega) ?_
        | refine k_rem rfl rfl (by omega) ?_
        | refine k_conv rfl (by omega) ?_
        | refine k_max rfl rfl ?_
        | refine k_min rfl rfl ?_
        | refine k_lssT rfl rfl (by omega) ?_
        | refine k_lssF rfl rfl (by omega) ?_
        | refine k_lss rfl rfl (fun hc => ?_) (fun hc => ?_)
        | refine k_leqT rfl rfl (by omega) ?_
        | refine k_leqF rfl rfl (by omega) ?_
        | refine k_leq rfl rfl (fun hc => ?_) (fun hc => ?_)
        | refine k_gtrT rfl rfl (by omega) ?_
        | refine k_gtrF rfl rfl (by omega) ?_
        | refine k_gtr rfl rfl (fun hc => ?_) (fun hc => ?_)
        | refine k_geqT rfl rfl (by omega) ?_
        | refine k_geqF rfl rfl (by omega) ?_
        | refine k_geq rfl rfl (fun hc => ?_) (fun hc => ?_)
        | refine k_eqlT rfl rfl (by omega) ?_
        | refine k_eqlF rfl rfl (by omega) ?_
        | refine k_eql rfl rfl (fun hc => ?_) (fun hc => ?_)
        | refine k_neqT rfl rfl (by omega) ?_
        | refine k_neqF rfl rfl (by omega) ?_
        | refine k_neq rfl rfl (fun hc => ?_) (fun hc => ?_)
        | refine k_len rfl rfl ?_
        | refine k_ok rfl rfl ?_))
    exact w_roundX ⟨rfl, rfl, he, _, _, rfl⟩

set_option maxHeartbeats 8000000 in
theorem textsW (h0 : Heap) (a : SV) (xs : List Int) (ha : IsInts h0 a xs) (s : List UInt8) : ∃ v h', Cal FT HKt 3 [.sc a, .sc (tb s)] h0 v h' ∧ v = .sc (.bool true) := by
  refine Cal.of (F := a3) rfl rfl rfl ?_
  have hln := IsSl.len ha
  by_cases h1 : xs.length ≤ 80
  · by_cases h2 : s.length ≤ 300
    · repeat' (first
   | refine w_seq ?_
   | refine w_seqN ?_
   | refine w_seqX ?_
   | refine w_seqR ?_
   | refine w_blk ?_
   | refine w_blkN ?_
   | refine w_blkX ?_
   | refine w_blkR ?_
   | refine w_skip ?_
   | refine w_ret ?_
   | refine w_exit ?_
   | refine w_ops ?_
   | refine w_opsD ?_
   | refine d_one ?_
   | refine d_nil ?_
   | ((refine i_cond ?_); first | refine w_condT rfl ?_ | refine w_condF rfl ?_)
   | ((refine i_nil ?_); first | refine d_same ?_ | refine d_ord ?_ | refine d_ext ⟨_, rfl⟩ ?_ | refine d_ext (extA _ _ _) ?_ | refine d_ext (by assumption) ?_ | refine w_end0 ?_ | refine w_end1 rfl ?_ | refine w_end2 rfl rfl ?_ | refine w_end3 rfl rfl rfl ?_ | refine w_end4 rfl rfl rfl rfl ?_ | refine w_end5 rfl rfl rfl rfl rfl ?_ | refine w_end6 rfl rfl rfl rfl rfl rfl ?_ | refine w_end7 rfl rfl rfl rfl rfl rfl rfl ?_ | refine w_end8 rfl rfl rfl rfl rfl rfl rfl rfl ?_ | refine w_end9 rfl rfl rfl rfl rfl rfl rfl rfl rfl ?_ | refine w_end10 rfl rfl rfl rfl rfl rfl rfl rfl rfl rfl ?_ | refine w_end11 rfl rfl rfl rfl rfl rfl rfl rfl rfl rfl rfl ?_ | refine w_end12 rfl rfl rfl rfl rfl rfl rfl rfl rfl rfl rfl rfl ?_ | refine w_end13 rfl rfl rfl rfl rfl rfl rfl rfl rfl rfl rfl rfl rfl ?_ | refine w_end14 rfl rfl rfl rfl rfl rfl rfl rfl rfl rfl rfl rfl rfl rfl ?_ | refine w_end15 rfl rfl rfl rfl rfl rfl rfl rfl rfl rfl rfl rfl rfl rfl rfl ?_ | refine w_end16 rfl rfl rfl rfl rfl rfl rfl rfl rfl rfl rfl rfl rfl rfl rfl rfl ?_)
   | ((refine i_cons ?_); first
     | (refine k_call rfl (awake_callT _) ?_; rintro v h' ⟨rfl, rfl⟩)
     | refine k_len rfl hln ?_
     | refine k_slen rfl ?_
     | refine k_skip rfl ?_
     | refine k_skipU rfl ?_
     | refine k_want rfl ?_
     | refine k_mv rfl ?_
     | refine k_pickT rfl rfl ?_
     | refine k_pickF rfl rfl ?_
     | refine k_notT rfl ?_
     | refine k_notF rfl ?_
     | refine k_add rfl rfl (by omega) ?_
     | refine k_sub rfl rfl (by omega) ?_
     | refine k_mul rfl rfl (by omega) ?_
     | refine k_neg rfl (by omega) ?_
     | refine k_quo rfl rfl (by omega) ?_
     | refine k_rem rfl rfl (by omega) ?_
     | refine k_conv rfl (by omega) ?_
     | refine k_max rfl rfl ?_
     | refine k_min rfl rfl ?_
     | refine k_lssT rfl rfl (by omega) ?_
     | refine k_lssF rfl rfl (by omega) ?_
     | refine k_lss rfl rfl (fun hc => ?_) (fun hc => ?_)
     | refine k_leqT rfl rfl (by omega) ?_
     | refine k_leqF rfl rfl (by omega) ?_
     | refine k_leq rfl rfl (fun hc => ?_) (fun hc => ?_)
     | refine k_gtrT rfl rfl (by omega) ?_
     | refine k_gtrF rfl rfl (by omega) ?_
     | refine k_gtr rfl rfl (fun hc => ?_) (fun hc => ?_)
     | refine k_geqT rfl rfl (by omega) ?_
     | refine k_geqF rfl rfl (by omega) ?_
     | refine k_geq rfl rfl (fun hc => ?_) (fun hc => ?_)
     | refine k_eqlT rfl rfl (by omega) ?_
     | refine k_eqlF rfl rfl (by omega) ?_
     | refine k_eql rfl rfl (fun hc => ?_) (fun hc => ?_)
     | refine k_neqT rfl rfl (by omega) ?_
     | refine k_neqF rfl rfl (by omega) ?_
     | refine k_neq rfl rfl (fun hc => ?_) (fun hc => ?_)
     | refine k_len rfl rfl ?_
     | refine k_ok rfl rfl ?_))
      refine w_loop (I3 _ a (.sc (tb s)) xs) (cnt xs.length 5) (R3 _ a (.sc (tb s)) xs) ⟨0, Nat.zero_le _, rfl, by simp, rfl⟩ (round3 _ a _ xs ha h1) ?_
      rintro ex E' h' ⟨rfl, hR⟩
      cases ex with
      | nm => exact hR.elim
      | rt =>
        subst hR
        repeat' (first
          | refine w_seq ?_
          | refine w_seqN ?_
          | refine w_seqX ?_
          | refine w_seqR ?_
          | refine w_blk ?_
          | refine w_blkN ?_
          | refine w_blkX ?_
          | refine w_blkR ?_
          | refine w_skip ?_
          | refine w_ret ?_
          | refine w_exit ?_
          | refine w_ops ?_
          | refine w_opsD ?_
          | refine d_one ?_
          | refine d_nil ?_
          | ((refine i_cond ?_); first | refine w_condT rfl ?_ | refine w_condF rfl ?_)
          | ((refine i_nil ?_); first | refine d_same ?_ | refine d_ord ?_ | refine d_ext ⟨_, rfl⟩ ?_ | refine d_ext (extA _ _ _) ?_ | refine d_ext (by assumption) ?_ | refine w_end0 ?_ | refine w_end1 rfl ?_ | refine w_end2 rfl rfl ?_ | refine w_end3 rfl rfl rfl ?_ | refine w_end4 rfl rfl rfl rfl ?_ | refine w_end5 rfl rfl rfl rfl rfl ?_ | refine w_end6 rfl rfl rfl rfl rfl rfl ?_ | refine w_end7 rfl rfl rfl rfl rfl rfl rfl ?_ | refine w_end8 rfl rfl rfl rfl rfl rfl rfl rfl ?_ | refine w_end9 rfl rfl rfl rfl rfl rfl rfl rfl rfl ?_ | refine w_end10 rfl rfl rfl rfl rfl rfl rfl rfl rfl rfl ?_ | refine w_end11 rfl rfl rfl rfl rfl rfl rfl rfl rfl rfl rfl ?_ | refine w_end12 rfl rfl rfl rfl rfl rfl rfl rfl rfl rfl rfl rfl ?_ | refine w_end13 rfl rfl rfl rfl rfl rfl rfl rfl rfl rfl rfl rfl rfl ?_ | refine w_end14 rfl rfl rfl rfl rfl rfl rfl rfl rfl rfl rfl rfl rfl rfl ?_ | refine w_end15 rfl rfl rfl rfl rfl rfl rfl rfl rfl rfl rfl rfl rfl rfl rfl ?_ | refine w_end16 rfl rfl rfl rfl rfl rfl rfl rfl rfl rfl rfl rfl rfl rfl rfl rfl ?_)
          | ((refine i_cons ?_); first
            | refine k_skip rfl ?_
            | refine k_skipU rfl ?_
            | refine k_want rfl ?_
            | refine k_mv rfl ?_
            | refine k_pickT rfl rfl ?_
            | refine k_pickF rfl rfl ?_
            | refine k_notT rfl ?_
            | refine k_notF rfl ?_
            | refine k_add rfl rfl (by omega) ?_
            | refine k_sub rfl rfl (by omega) ?_
            | refine k_mul rfl rfl (by omega) ?_
            | refine k_neg rfl (by omega) ?_
            | refine k_quo rfl rfl (by omega) ?_
            | refine k_rem rfl rfl (by omega) ?_
            | refine k_conv rfl (by omega) ?_
            | refine k_max rfl rfl ?_
            | refine k_min rfl rfl ?_
            | refine k_lssT rfl rfl (by omega) ?_
            | refine k_lssF rfl rfl (by omega) ?_
            | refine k_lss rfl rfl (fun hc => ?_) (fun hc => ?_)
            | refine k_leqT rfl rfl (by omega) ?_
            | refine k_leqF rfl rfl (by omega) ?_
            | refine k_leq rfl rfl (fun hc => ?_) (fun hc => ?_)
            | refine k_gtrT rfl rfl (by omega) ?_
            | refine k_gtrF rfl rfl (by omega) ?_
            | refine k_gtr rfl rfl (fun hc => ?_) (fun hc => ?_)
            | refine k_geqT rfl rfl (by omega) ?_
            | refine k_geqF rfl rfl (by omega) ?_
            | refine k_geq rfl rfl (fun hc => ?_) (fun hc => ?_)
            | refine k_eqlT rfl rfl (by omega) ?_
            | refine k_eqlF rfl rfl (by omega) ?_
            | refine k_eql rfl rfl (fun hc => ?_) (fun hc => ?_)
            | refine k_neqT rfl rfl (by omega) ?_
            | refine k_neqF rfl rfl (by omega) ?_
            | refine k_neq rfl rfl (fun hc => ?_) (fun hc => ?_)
            | refine k_len rfl rfl ?_
            | refine k_ok rfl rfl ?_))
        exact ⟨.inr rfl, rfl⟩
      | ex i =>
        obtain ⟨rfl, h61, c, d, rfl⟩ := hR
        have h62 : ∀ x ∈ xs, In62 x := fun x hx => by have := h61 x hx; unfold In61 at this; unfold In62; omega
        have h64 : ∀ x ∈ xs, In64 x := fun x hx => (h62 x hx).i64
        have hlt := listT_len xs h64
        have k2 := fun h hs => call6 h a xs hs h64 (by omega)
        have k3 := fun h => call7 h (listT xs) (by omega)
        rw [parse_text h62] at k3
        have k4 := fun h hs => call8 h a xs hs h62 (by omega)
        have k5 := fun h => call7 h s (by omega)
        have k6 := fun h => call11 h s (by omega)
        rw [same_read] at k5
        have hd : (!decide (listT xs = listT xs)) = false := by simp
        by_cases hg : Good xs
        · rw [if_pos hg] at k3
          have k7 := fun h t ht hs => call10 h t a xs xs ht hs (by omega) (by omega)
          rw [decide_eq_true (rfl : xs = xs)] at k7
          cases hr : readL s with
          | some L =>
            rw [hr] at k5 k6
            have k8 := fun h t u ht hu (hL : L.length ≤ 64) => call10 h t u L L ht hu (by omega) (by omega)
            rw [decide_eq_true (rfl : L = L)] at k8
            repeat' (first
              | refine w_seq ?_
              | refine w_seqN ?_
              | refine w_seqX ?_
              | refine w_seqR ?_
              | refine w_blk ?_
              | refine w_blkN ?_
              | refine w_blkX ?_
              | refine w_blkR ?_
              | refine w_skip ?_
              | refine w_ret ?_
              | refine w_exit ?_
              | refine w_ops ?_
              | refine w_opsD ?_
              | refine d_one ?_
              | refine d_nil ?_
              | ((refine i_cond ?_); first | refine w_condT rfl ?_ | refine w_condF rfl ?_)
              | ((refine i_nil ?_); first | refine d_same ?_ | refine d_ord ?_ | refine d_ext ⟨_, rfl⟩ ?_ | refine d_ext (extA _ _ _) ?_ | refine d_ext (by assumption) ?_ | refine w_end0 ?_ | refine w_end1 rfl ?_ | refine w_end2 rfl rfl ?_ | refine w_end3 rfl rfl rfl ?_ | refine w_end4 rfl rfl rfl rfl ?_ | refine w_end5 rfl rfl rfl rfl rfl ?_ | refine w_end6 rfl rfl rfl rfl rfl rfl ?_ | refine w_end7 rfl rfl rfl rfl rfl rfl rfl ?_ | refine w_end8 rfl rfl rfl rfl rfl rfl rfl rfl ?_ | refine w_end9 rfl rfl rfl rfl rfl rfl rfl rfl rfl ?_ | refine w_end10 rfl rfl rfl rfl rfl rfl rfl rfl rfl rfl ?_ | refine w_end11 rfl rfl rfl rfl rfl rfl rfl rfl rfl rfl rfl ?_ | refine w_end12 rfl rfl rfl rfl rfl rfl rfl rfl rfl rfl rfl rfl ?_ | refine w_end13 rfl rfl rfl rfl rfl rfl rfl rfl rfl rfl rfl rfl rfl ?_ | refine w_end14 rfl rfl rfl rfl rfl rfl rfl rfl rfl rfl rfl rfl rfl rfl ?_ | refine w_end15 rfl rfl rfl rfl rfl rfl rfl rfl rfl rfl rfl rfl rfl rfl rfl ?_ | refine w_end16 rfl rfl rfl rfl rfl rfl rfl rfl rfl rfl rfl rfl rfl rfl rfl rfl ?_)
              | ((refine i_cons ?_); first
                | (refine k_call rfl (k2 _ ha) ?_; rintro v h1 ⟨rfl, e1⟩)
                | (refine k_call rfl (k3 _) ?_; rintro v h2 ⟨e2, t, rfl, i2, -⟩; have e3 := e1.trans e2; have a3 := IsSl.ext ha e3)
                | (refine k_call rfl (k4 _ a3) ?_; rintro v h' ⟨rfl, rfl⟩)
                | refine k_sneq rfl rfl hd ?_
                | (refine k_call rfl (rvalT _ a xs a3 hg) ?_; rintro v h4 ⟨rfl, e4⟩; have a4 := IsSl.ext a3 e4; have i4 := IsSl.ext i2 e4)
                | (refine k_call rfl (k7 _ t i4 a4) ?_; rintro v h' ⟨rfl, rfl⟩)
                | (refine k_call rfl (k5 _) ?_; rintro v h5 ⟨e5, u, rfl, i5, g5⟩)
                | (refine k_call rfl (k6 _) ?_; rintro v h6 ⟨e6, q, rfl, i6, g6⟩; have j5 := IsSl.ext i5 e6)
                | (refine k_call rfl (k8 _ u q j5 i6 g6.2.1) ?_; rintro v h' ⟨rfl, rfl⟩)
                | refine k_skip rfl ?_
                | refine k_skipU rfl ?_
                | refine k_want rfl ?_
                | refine k_mv rfl ?_
                | refine k_pickT rfl rfl ?_
                | refine k_pickF rfl rfl ?_
                | refine k_notT rfl ?_
                | refine k_notF rfl ?_
                | refine k_add rfl rfl (by omega) ?_
                | refine k_sub rfl rfl (by omega) ?_
                | refine k_mul rfl rfl (by omega) ?_
                | refine k_neg rfl (by omega) ?_
                | refine k_quo rfl rfl (by omega) ?_
                | refine k_rem rfl rfl (by omega) ?_
                | refine k_conv rfl (by omega) ?_
                | refine k_max rfl rfl ?_
                | refine k_min rfl rfl ?_
                | refine k_lssT rfl rfl (by omega) ?_
                | refine k_lssF rfl rfl (by omega) ?_
                | refine k_lss rfl rfl (fun hc => ?_) (fun hc => ?_)
                | refine k_leqT rfl rfl (by omega) ?_
                | refine k_leqF rfl rfl (by omega) ?_
                | refine k_leq rfl rfl (fun hc => ?_) (fun hc => ?_)
                | refine k_gtrT rfl rfl (by omega) ?_
                | refine k_gtrF rfl rfl (by omega) ?_
                | refine k_gtr rfl rfl (fun hc => ?_) (fun hc => ?_)
                | refine k_geqT rfl rfl (by omega) ?_
                | refine k_geqF rfl rfl (by omega) ?_
                | refine k_geq rfl rfl (fun hc => ?_) (fun hc => ?_)
                | refine k_eqlT rfl rfl (by omega) ?_
                | refine k_eqlF rfl rfl (by omega) ?_
                | refine k_eql rfl rfl (fun hc => ?_) (fun hc => ?_)
                | refine k_neqT rfl rfl (by omega) ?_
                | refine k_neqF rfl rfl (by omega) ?_
                | refine k_neq rfl rfl (fun hc => ?_) (fun hc => ?_)
                | refine k_len rfl rfl ?_
                | refine k_ok rfl rfl ?_))
            exact ⟨.inr rfl, rfl⟩
          | none =>
            rw [hr] at k5 k6
            repeat' (first
              | refine w_seq ?_
              | refine w_seqN ?_
              | refine w_seqX ?_
              | refine w_seqR ?_
              | refine w_blk ?_
              | refine w_blkN ?_
              | refine w_blkX ?_
              | refine w_blkR ?_
              | refine w_skip ?_
              | refine w_ret ?_
              | refine w_exit ?_
              | refine w_ops ?_
              | refine w_opsD ?_
              | refine d_one ?_
              | refine d_nil ?_
              | ((refine i_cond ?_); first | refine w_condT rfl ?_ | refine w_condF rfl ?_)
              | ((refine i_nil ?_); first | refine d_same ?_ | refine d_ord ?_ | refine d_ext ⟨_, rfl⟩ ?_ | refine d_ext (extA _ _ _) ?_ | refine d_ext (by assumption) ?_ | refine w_end0 ?_ | refine w_end1 rfl ?_ | refine w_end2 rfl rfl ?_ | refine w_end3 rfl rfl rfl ?_ | refine w_end4 rfl rfl rfl rfl ?_ | refine w_end5 rfl rfl rfl rfl rfl ?_ | refine w_end6 rfl rfl rfl rfl rfl rfl ?_ | refine w_end7 rfl rfl rfl rfl rfl rfl rfl ?_ | refine w_end8 rfl rfl rfl rfl rfl rfl rfl rfl ?_ | refine w_end9 rfl rfl rfl rfl rfl rfl rfl rfl rfl ?_ | refine w_end10 rfl rfl rfl rfl rfl rfl rfl rfl rfl rfl ?_ | refine w_end11 rfl rfl rfl rfl rfl rfl rfl rfl rfl rfl rfl ?_ | refine w_end12 rfl rfl rfl rfl rfl rfl rfl rfl rfl rfl rfl rfl ?_ | refine w_end13 rfl rfl rfl rfl rfl rfl rfl rfl rfl rfl rfl rfl rfl ?_ | refine w_end14 rfl rfl rfl rfl rfl rfl rfl rfl rfl rfl rfl rfl rfl rfl ?_ | refine w_end15 rfl rfl rfl rfl rfl rfl rfl rfl rfl rfl rfl rfl rfl rfl rfl ?_ | refine w_end16 rfl rfl rfl rfl rfl rfl rfl rfl rfl rfl rfl rfl rfl rfl rfl rfl ?_)
              | ((refine i_cons ?_); first
                | (refine k_call rfl (k2 _ ha) ?_; rintro v h1 ⟨rfl, e1⟩)
                | (refine k_call rfl (k3 _) ?_; rintro v h2 ⟨e2, t, rfl, i2, -⟩; have e3 := e1.trans e2; have a3 := IsSl.ext ha e3)
                | (refine k_call rfl (k4 _ a3) ?_; rintro v h' ⟨rfl, rfl⟩)
                | refine k_sneq rfl rfl hd ?_
                | (refine k_call rfl (rvalT _ a xs a3 hg) ?_; rintro v h4 ⟨rfl, e4⟩; have a4 := IsSl.ext a3 e4; have i4 := IsSl.ext i2 e4)
                | (refine k_call rfl (k7 _ t i4 a4) ?_; rintro v h' ⟨rfl, rfl⟩)
                | (refine k_call rfl (k5 _) ?_; rintro v h5 ⟨e5, rfl⟩)
                | (refine k_call rfl (k6 _) ?_; rintro v h6 ⟨e6, q, rfl⟩)
                | refine k_skip rfl ?_
                | refine k_skipU rfl ?_
                | refine k_want rfl ?_
                | refine k_mv rfl ?_
                | refine k_pickT rfl rfl ?_
                | refine k_pickF rfl rfl ?_
                | refine k_notT rfl ?_
                | refine k_notF rfl ?_
                | refine k_add rfl rfl (by omega) ?_
                | refine k_sub rfl rfl (by omega) ?_
                | refine k_mul rfl rfl (by omega) ?_
                | refine k_neg rfl (by omega) ?_
                | refine k_quo rfl rfl (by omega) ?_
                | refine k_rem rfl rfl (by omega) ?_
                | refine k_conv rfl (by omega) ?_
                | refine k_max rfl rfl ?_
                | refine k_min rfl rfl ?_
                | refine k_lssT rfl rfl (by omega) ?_
                | refine k_lssF rfl rfl (by omega) ?_
                | refine k_lss rfl rfl (fun hc => ?_) (fun hc => ?_)
                | refine k_leqT rfl rfl (by omega) ?_
                | refine k_leqF rfl rfl (by omega) ?_
                | refine k_leq rfl rfl (fun hc => ?_) (fun hc => ?_)
                | refine k_gtrT rfl rfl (by omega) ?_
                | refine k_gtrF rfl rfl (by omega) ?_
                | refine k_gtr rfl rfl (fun hc => ?_) (fun hc => ?_)
                | refine k_geqT rfl rfl (by omega) ?_
                | refine k_geqF rfl rfl (by omega) ?_
                | refine k_geq rfl rfl (fun hc => ?_) (fun hc => ?_)
                | refine k_eqlT rfl rfl (by omega) ?_
                | refine k_eqlF rfl rfl (by omega) ?_
                | refine k_eql rfl rfl (fun hc => ?_) (fun hc => ?_)
                | refine k_neqT rfl rfl (by omega) ?_
                | refine k_neqF rfl rfl (by omega) ?_
                | refine k_neq rfl rfl (fun hc => ?_) (fun hc => ?_)
                | refine k_len rfl rfl ?_
                | refine k_ok rfl rfl ?_))
            exact ⟨.inr rfl, rfl⟩
        · rw [if_neg hg] at k3
          cases hr : readL s with
          | some L =>
            rw [hr] at k5 k6
            have k8 := fun h t u ht hu (hL : L.length ≤ 64) => call10 h t u L L ht hu (by omega) (by omega)
            rw [decide_eq_true (rfl : L = L)] at k8
            repeat' (first
              | refine w_seq ?_
              | refine w_seqN ?_
              | refine w_seqX ?_
              | refine w_seqR ?_
              | refine w_blk ?_
              | refine w_blkN ?_
              | refine w_blkX ?_
              | refine w_blkR ?_
              | refine w_skip ?_
              | refine w_ret ?_
              | refine w_exit ?_
              | refine w_ops ?_
              | refine w_opsD ?_
              | refine d_one ?_
              | refine d_nil ?_
              | ((refine i_cond ?_); first | refine w_condT rfl ?_ | refine w_condF rfl ?_)
              | ((refine i_nil ?_); first | refine d_same ?_ | refine d_ord ?_ | refine d_ext ⟨_, rfl⟩ ?_ | refine d_ext (extA _ _ _) ?_ | refine d_ext (by assumption) ?_ | refine w_end0 ?_ | refine w_end1 rfl ?_ | refine w_end2 rfl rfl ?_ | refine w_end3 rfl rfl rfl ?_ | refine w_end4 rfl rfl rfl rfl ?_ | refine w_end5 rfl rfl rfl rfl rfl ?_ | refine w_end6 rfl rfl rfl rfl rfl rfl ?_ | refine w_end7 rfl rfl rfl rfl rfl rfl rfl ?_ | refine w_end8 rfl rfl rfl rfl rfl rfl rfl rfl ?_ | refine w_end9 rfl rfl rfl rfl rfl rfl rfl rfl rfl ?_ | refine w_end10 rfl rfl rfl rfl rfl rfl rfl rfl rfl rfl ?_ | refine w_end11 rfl rfl rfl rfl rfl rfl rfl rfl rfl rfl rfl ?_ | refine w_end12 rfl rfl rfl rfl rfl rfl rfl rfl rfl rfl rfl rfl ?_ | refine w_end13 rfl rfl rfl rfl rfl rfl rfl rfl rfl rfl rfl rfl rfl ?_ | refine w_end14 rfl rfl rfl rfl rfl rfl rfl rfl rfl rfl rfl rfl rfl rfl ?_ | refine w_end15 rfl rfl rfl rfl rfl rfl rfl rfl rfl rfl rfl rfl rfl rfl rfl ?_ | refine w_end16 rfl rfl rfl rfl rfl rfl rfl rfl rfl rfl rfl rfl rfl rfl rfl rfl ?_)
              | ((refine i_cons ?_); first
                | (refine k_call rfl (k2 _ ha) ?_; rintro v h1 ⟨rfl, e1⟩)
                | (refine k_call rfl (k3 _) ?_; rintro v h2 ⟨e2, rfl⟩; have e3 := e1.trans e2; have a3 := IsSl.ext ha e3)
                | (refine k_call rfl (k4 _ a3) ?_; rintro v h' ⟨rfl, rfl⟩)
                | refine k_sneq rfl rfl hd ?_
                | (refine k_call rfl (rvalF _ a xs a3 hg) ?_; rintro v h4 ⟨rfl, e4⟩)
                | (refine k_call rfl (k5 _) ?_; rintro v h5 ⟨e5, u, rfl, i5, g5⟩)
                | (refine k_call rfl (k6 _) ?_; rintro v h6 ⟨e6, q, rfl, i6, g6⟩; have j5 := IsSl.ext i5 e6)
                | (refine k_call rfl (k8 _ u q j5 i6 g6.2.1) ?_; rintro v h' ⟨rfl, rfl⟩)
                | refine k_skip rfl ?_
                | refine k_skipU rfl ?_
                | refine k_want rfl ?_
                | refine k_mv rfl ?_
                | refine k_pickT rfl rfl ?_
                | refine k_pickF rfl rfl ?_
                | refine k_notT rfl ?_
                | refine k_notF rfl ?_
                | refine k_add rfl rfl (by omega) ?_
                | refine k_sub rfl rfl (by omega) ?_
                | refine k_mul rfl rfl (by omega) ?_
                | refine k_neg rfl (by omega) ?_
                | refine k_quo rfl rfl (by omega) ?_
                | refine k_rem rfl rfl (by omega) ?_
                | refine k_conv rfl (by omega) ?_
                | refine k_max rfl rfl ?_
                | refine k_min rfl rfl ?_
                | refine k_lssT rfl rfl (by omega) ?_
                | refine k_lssF rfl rfl (by omega) ?_
                | refine k_lss rfl rfl (fun hc => ?_) (fun hc => ?_)
                | refine k_leqT rfl rfl (by omega) ?_
                | refine k_leqF rfl rfl (by omega) ?_
                | refine k_leq rfl rfl (fun hc => ?_) (fun hc => ?_)
                | refine k_gtrT rfl rfl (by omega) ?_
                | refine k_gtrF rfl rfl (by omega) ?_
                | refine k_gtr rfl rfl (fun hc => ?_) (fun hc => ?_)
                | refine k_geqT rfl rfl (by omega) ?_
                | refine k_geqF rfl rfl (by omega) ?_
                | refine k_geq rfl rfl (fun hc => ?_) (fun hc => ?_)
                | refine k_eqlT rfl rfl (by omega) ?_
                | refine k_eqlF rfl rfl (by omega) ?_
                | refine k_eql rfl rfl (fun hc => ?_) (fun hc => ?_)
                | refine k_neqT rfl rfl (by omega) ?_
                | refine k_neqF rfl rfl (by omega) ?_
                | refine k_neq rfl rfl (fun hc => ?_) (fun hc => ?_)
                | refine k_len rfl rfl ?_
                | refine k_ok rfl rfl ?_))
            exact ⟨.inr rfl, rfl⟩
          | none =>
            rw [hr] at k5 k6
            repeat' (first
              | refine w_seq ?_
              | refine w_seqN ?_
              | refine w_seqX ?_
              | refine w_seqR ?_
              | refine w_blk ?_
              | refine w_blkN ?_
              | refine w_blkX ?_
              | refine w_blkR ?_
              | refine w_skip ?_
              | refine w_ret ?_
              | refine w_exit ?_
              | refine w_ops ?_
              | refine w_opsD ?_
              | refine d_one ?_
              | refine d_nil ?_
              | ((refine i_cond ?_); first | refine w_condT rfl ?_ | refine w_condF rfl ?_)
              | ((refine i_nil ?_); first | refine d_same ?_ | refine d_ord ?_ | refine d_ext ⟨_, rfl⟩ ?_ | refine d_ext (extA _ _ _) ?_ | refine d_ext (by assumption) ?_ | refine w_end0 ?_ | refine w_end1 rfl ?_ | refine w_end2 rfl rfl ?_ | refine w_end3 rfl rfl rfl ?_ | refine w_end4 rfl rfl rfl rfl ?_ | refine w_end5 rfl rfl rfl rfl rfl ?_ | refine w_end6 rfl rfl rfl rfl rfl rfl ?_ | refine w_end7 rfl rfl rfl rfl rfl rfl rfl ?_ | refine w_end8 rfl rfl rfl rfl rfl rfl rfl rfl ?_ | refine w_end9 rfl rfl rfl rfl rfl rfl rfl rfl rfl ?_ | refine w_end10 rfl rfl rfl rfl rfl rfl rfl rfl rfl rfl ?_ | refine w_end11 rfl rfl rfl rfl rfl rfl rfl rfl rfl rfl rfl ?_ | refine w_end12 rfl rfl rfl rfl rfl rfl rfl rfl rfl rfl rfl rfl ?_ | refine w_end13 rfl rfl rfl rfl rfl rfl rfl rfl rfl rfl rfl rfl rfl ?_ | refine w_end14 rfl rfl rfl rfl rfl rfl rfl rfl rfl rfl rfl rfl rfl rfl ?_ | refine w_end15 rfl rfl rfl rfl rfl rfl rfl rfl rfl rfl rfl rfl rfl rfl rfl ?_ | refine w_end16 rfl rfl rfl rfl rfl rfl rfl rfl rfl rfl rfl rfl rfl rfl rfl rfl ?_)
              | ((refine i_cons ?_); first
                | (refine k_call rfl (k2 _ ha) ?_; rintro v h1 ⟨rfl, e1⟩)
                | (refine k_call rfl (k3 _) ?_; rintro v h2 ⟨e2, rfl⟩; have e3 := e1.trans e2; have a3 := IsSl.ext ha e3)
                | (refine k_call rfl (k4 _ a3) ?_; rintro v h' ⟨rfl, rfl⟩)
                | refine k_sneq rfl rfl hd ?_
                | (refine k_call rfl (rvalF _ a xs a3 hg) ?_; rintro v h4 ⟨rfl, e4⟩)
                | (refine k_call rfl (k5 _) ?_; rintro v h5 ⟨e5, rfl⟩)
                | (refine k_call rfl (k6 _) ?_; rintro v h6 ⟨e6, q, rfl⟩)
                | refine k_skip rfl ?_
                | refine k_skipU rfl ?_
                | refine k_want rfl ?_
                | refine k_mv rfl ?_
                | refine k_pickT rfl rfl ?_
                | refine k_pickF rfl rfl ?_
                | refine k_notT rfl ?_
                | refine k_notF rfl ?_
                | refine k_add rfl rfl (by omega) ?_
                | refine k_sub rfl rfl (by omega) ?_
                | refine k_mul rfl rfl (by omega) ?_
                | refine k_neg rfl (by omega) ?_
                | refine k_quo rfl rfl (by omega) ?_
                | refine k_rem rfl rfl (by omega) ?_
                | refine k_conv rfl (by omega) ?_
                | refine k_max rfl rfl ?_
                | refine k_min rfl rfl ?_
                | refine k_lssT rfl rfl (by omega) ?_
                | refine k_lssF rfl rfl (by omega) ?_
                | refine k_lss rfl rfl (fun hc => ?_) (fun hc => ?_)
                | refine k_leqT rfl rfl (by omega) ?_
                | refine k_leqF rfl rfl (by omega) ?_
                | refine k_leq rfl rfl (fun hc => ?_) (fun hc => ?_)
                | refine k_gtrT rfl rfl (by omega) ?_
                | refine k_gtrF rfl rfl (by omega) ?_
                | refine k_gtr rfl rfl (fun hc => ?_) (fun hc => ?_)
                | refine k_geqT rfl rfl (by omega) ?_
                | refine k_geqF rfl rfl (by omega) ?_
                | refine k_geq rfl rfl (fun hc => ?_) (fun hc => ?_)
                | refine k_eqlT rfl rfl (by omega) ?_
                | refine k_eqlF rfl rfl (by omega) ?_
                | refine k_eql rfl rfl (fun hc => ?_) (fun hc => ?_)
                | refine k_neqT rfl rfl (by omega) ?_
                | refine k_neqF rfl rfl (by omega) ?_
                | refine k_neq rfl rfl (fun hc => ?_) (fun hc => ?_)
                | refine k_len rfl rfl ?_
                | refine k_ok rfl rfl ?_))
            exact ⟨.inr rfl, rfl⟩
    · repeat' (first
   | refine w_seq ?_
   | refine w_seqN ?_
   | refine w_seqX ?_
   | refine w_seqR ?_
   | refine w_blk ?_
   | refine w_blkN ?_
   | refine w_blkX ?_
   | refine w_blkR ?_
   | refine w_skip ?_
   | refine w_ret ?_
   | refine w_exit ?_
   | refine w_ops ?_
   | refine w_opsD ?_
   | refine d_one ?_
   | refine d_nil ?_
   | ((refine i_cond ?_); first | refine w_condT rfl ?_ | refine w_condF rfl ?_)
   | ((refine i_nil ?_); first | refine d_same ?_ | refine d_ord ?_ | refine d_ext ⟨_, rfl⟩ ?_ | refine d_ext (extA _ _ _) ?_ | refine d_ext (by assumption) ?_ | refine w_end0 ?_ | refine w_end1 rfl ?_ | refine w_end2 rfl rfl ?_ | refine w_end3 rfl rfl rfl ?_ | refine w_end4 rfl rfl rfl rfl ?_ | refine w_end5 rfl rfl rfl rfl rfl ?_ | refine w_end6 rfl rfl rfl rfl rfl rfl ?_ | refine w_end7 rfl rfl rfl rfl rfl rfl rfl ?_ | refine w_end8 rfl rfl rfl rfl rfl rfl rfl rfl ?_ | refine w_end9 rfl rfl rfl rfl rfl rfl rfl rfl rfl ?_ | refine w_end10 rfl rfl rfl rfl rfl rfl rfl rfl rfl rfl ?_ | refine w_end11 rfl rfl rfl rfl rfl rfl rfl rfl rfl rfl rfl ?_ | refine w_end12 rfl rfl rfl rfl rfl rfl rfl rfl rfl rfl rfl rfl ?_ | refine w_end13 rfl rfl rfl rfl rfl rfl rfl rfl rfl rfl rfl rfl rfl ?_ | refine w_end14 rfl rfl rfl rfl rfl rfl rfl rfl rfl rfl rfl rfl rfl rfl ?_ | refine w_end15 rfl rfl rfl rfl rfl rfl rfl rfl rfl rfl rfl rfl rfl rfl rfl ?_ | refine w_end16 rfl rfl rfl rfl rfl rfl rfl rfl rfl rfl rfl rfl rfl rfl rfl rfl ?_)
   | ((refine i_cons ?_); first
     | (refine k_call rfl (awake_callT _) ?_; rintro v h' ⟨rfl, rfl⟩)
     | refine k_len rfl hln ?_
     | refine k_slen rfl ?_
     | refine k_skip rfl ?_
     | refine k_skipU rfl ?_
     | refine k_want rfl ?_
     | refine k_mv rfl ?_
     | refine k_pickT rfl rfl ?_
     | refine k_pickF rfl rfl ?_
     | refine k_notT rfl ?_
     | refine k_notF rfl ?_
     | refine k_add rfl rfl (by omega) ?_
     | refine k_sub rfl rfl (by omega) ?_
     | refine k_mul rfl rfl (by omega) ?_
     | refine k_neg rfl (by omega) ?_
     | refine k_quo rfl rfl (by omega) ?_
     | refine k_rem rfl rfl (by omega) ?_
     | refine k_conv rfl (by omega) ?_
     | refine k_max rfl rfl ?_
     | refine k_min rfl rfl ?_
     | refine k_lssT rfl rfl (by omega) ?_
     | refine k_lssF rfl rfl (by omega) ?_
     | refine k_lss rfl rfl (fun hc => ?_) (fun hc => ?_)
     | refine k_leqT rfl rfl (by omega) ?_
     | refine k_leqF rfl rfl (by omega) ?_
     | refine k_leq rfl rfl (fun hc => ?_) (fun hc => ?_)
     | refine k_gtrT rfl rfl (by omega) ?_
     | refine k_gtrF rfl rfl (by omega) ?_
     | refine k_gtr rfl rfl (fun hc => ?_) (fun hc => ?_)
     | refine k_geqT rfl rfl (by omega) ?_
     | refine k_geqF rfl rfl (by omega) ?_
     | refine k_geq rfl rfl (fun hc => ?_) (fun hc => ?_)
     | refine k_eqlT rfl rfl (by omega) ?_
     | refine k_eqlF rfl rfl (by omega) ?_
     | refine k_eql rfl rfl (fun hc => ?_) (fun hc => ?_)
     | refine k_neqT rfl rfl (by omega) ?_
     | refine k_neqF rfl rfl (by omega) ?_
     | refine k_neq rfl rfl (fun hc => ?_) (fun hc => ?_)
     | refine k_len rfl rfl ?_
     | refine k_ok rfl rfl ?_))
      exact ⟨.inr rfl, rfl⟩
  · repeat' (first
   | refine w_seq ?_
   | refine w_seqN ?_
   | refine w_seqX ?_
   | refine w_seqR ?_
   | refine w_blk ?_
   | refine w_blkN ?_
   | refine w_blkX ?_
   | refine w_blkR ?_
   | refine w_skip ?_
   | refine w_ret ?_
   | refine w_exit ?_
   | refine w_ops ?_
   | refine w_opsD ?_
   | refine d_one ?_
   | refine d_nil ?_
   | ((refine i_cond ?_); first | refine w_condT rfl ?_ | refine w_condF rfl ?_)
   | ((refine i_nil ?_); first | refine d_same ?_ | refine d_ord ?_ | refine d_ext ⟨_, rfl⟩ ?_ | refine d_ext (extA _ _ _) ?_ | refine d_ext (by assumption) ?_ | refine w_end0 ?_ | refine w_end1 rfl ?_ | refine w_end2 rfl rfl ?_ | refine w_end3 rfl rfl rfl ?_ | refine w_end4 rfl rfl rfl rfl ?_ | refine w_end5 rfl rfl rfl rfl rfl ?_ | refine w_end6 rfl rfl rfl rfl rfl rfl ?_ | refine w_end7 rfl rfl rfl rfl rfl rfl rfl ?_ | refine w_end8 rfl rfl rfl rfl rfl rfl rfl rfl ?_ | refine w_end9 rfl rfl rfl rfl rfl rfl rfl rfl rfl ?_ | refine w_end10 rfl rfl rfl rfl rfl rfl rfl rfl rfl rfl ?_ | refine w_end11 rfl rfl rfl rfl rfl rfl rfl rfl rfl rfl rfl ?_ | refine w_end12 rfl rfl rfl rfl rfl rfl rfl rfl rfl rfl rfl rfl ?_ | refine w_end13 rfl rfl rfl rfl rfl rfl rfl rfl rfl rfl rfl rfl rfl ?_ | refine w_end14 rfl rfl rfl rfl rfl rfl rfl rfl rfl rfl rfl rfl rfl rfl ?_ | refine w_end15 rfl rfl rfl rfl rfl rfl rfl rfl rfl rfl rfl rfl rfl rfl rfl ?_ | refine w_end16 rfl rfl rfl rfl rfl rfl rfl rfl rfl rfl rfl rfl rfl rfl rfl rfl ?_)
   | ((refine i_cons ?_); first
     | (refine k_call rfl (awake_callT _) ?_; rintro v h' ⟨rfl, rfl⟩)
     | refine k_len rfl hln ?_
     | refine k_slen rfl ?_
     | refine k_skip rfl ?_
     | refine k_skipU rfl ?_
     | refine k_want rfl ?_
     | refine k_mv rfl ?_
     | refine k_pickT rfl rfl ?_
     | refine k_pickF rfl rfl ?_
     | refine k_notT rfl ?_
     | refine k_notF rfl ?_
     | refine k_add rfl rfl (by omega) ?_
     | refine k_sub rfl rfl (by omega) ?_
     | refine k_mul rfl rfl (by omega) ?_
     | refine k_neg rfl (by omega) ?_
     | refine k_quo rfl rfl (by omega) ?_
     | refine k_rem rfl rfl (by omega) ?_
     | refine k_conv rfl (by omega) ?_
     | refine k_max rfl rfl ?_
     | refine k_min rfl rfl ?_
     | refine k_lssT rfl rfl (by omega) ?_
     | refine k_lssF rfl rfl (by omega) ?_
     | refine k_lss rfl rfl (fun hc => ?_) (fun hc => ?_)
     | refine k_leqT rfl rfl (by omega) ?_
     | refine k_leqF rfl rfl (by omega) ?_
     | refine k_leq rfl rfl (fun hc => ?_) (fun hc => ?_)
     | refine k_gtrT rfl rfl (by omega) ?_
     | refine k_gtrF rfl rfl (by omega) ?_
     | refine k_gtr rfl rfl (fun hc => ?_) (fun hc => ?_)
     | refine k_geqT rfl rfl (by omega) ?_
     | refine k_geqF rfl rfl (by omega) ?_
     | refine k_geq rfl rfl (fun hc => ?_) (fun hc => ?_)
     | refine k_eqlT rfl rfl (by omega) ?_
     | refine k_eqlF rfl rfl (by omega) ?_
     | refine k_eql rfl rfl (fun hc => ?_) (fun hc => ?_)
     | refine k_neqT rfl rfl (by omega) ?_
     | refine k_neqF rfl rfl (by omega) ?_
     | refine k_neq rfl rfl (fun hc => ?_) (fun hc => ?_)
     | refine k_len rfl rfl ?_
     | refine k_ok rfl rfl ?_))
    exact ⟨.inr rfl, rfl⟩
theorem texts (h0 : Heap) (a : SV) (xs : List Int) (ha : IsInts h0 a xs) (s : ByteArray) : ∃ v h', Cal FT HKt 3 [.sc a, .sc (.str s)] h0 v h' ∧ v = .sc (.bool true) := textsW h0 a xs ha s.data.toList
end Go.Proofs.YtooafhbjbpaacaaDoor
