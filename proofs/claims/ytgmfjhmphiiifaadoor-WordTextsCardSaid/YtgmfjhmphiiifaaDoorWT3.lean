/- Contracts: both Formats; a letter; Parse. -/
import Derived.Test.YtgmfjhmphiiifaaDoorWT2
import Derived.Test.YtgmfjhmphiiifaaDoorTP2
import Derived.Test.YtgmfjhmphiiifaaDoorW3
namespace Go.Proofs.YtgmfjhmphiiifaaDoor
open Go.Ab
set_option linter.unusedVariables false
set_option linter.unusedSimpArgs false
set_option maxRecDepth 20000
attribute [local irreducible] wOps wA wSeq wBlk wRound wOpsD

theorem Ltr.i64 {x : Int} (h : Ltr x) : -9223372036854775808 ≤ x ∧ x ≤ 9223372036854775807 ∧ -9223372036854775808 ≤ -x ∧ -x ≤ 9223372036854775807 := by
  unfold Ltr at h; omega
theorem letT_neg {x : Int} (h : x < 0) : letT x = [88] ++ Lib.itoa (-x) := by unfold letT; rw [if_pos h]; rfl
theorem letT_pos {x : Int} (h : ¬ x < 0) : letT x = [120] ++ Lib.itoa x := by unfold letT; rw [if_neg h]; rfl

/-! ### Format -/
def I29 (h0 : Heap) (B : Nat) (s : SV) (xs : List Int) (E : Env) (h : Heap) : Prop := ∃ i : Nat, i ≤ xs.length ∧ BL h0 h B (wordS (xs.take i)) ∧
  E = [(3, some (.sc (.ptr B 0))), (9, some (.sc s)), (10, some (.sc (.int .i64 xs.length))), (11, some (.sc (.int .i64 i)))]
def R29 (h0 : Heap) (B : Nat) (xs : List Int) (ex : Ex) (E : Env) (h : Heap) : Prop := ex = .ex 0 ∧ BL h0 h B (wordS xs) ∧ ∃ a b c d, E = [(3, some (.sc (.ptr B 0))), (9, a), (10, b), (11, c), (12, d)]
theorem round29 (h0 : Heap) (B : Nat) (s : SV) (xs : List Int) (hp : IsPins h0) (hs : IsInts h0 s xs) (hx1 : ∀ x ∈ xs, Ltr x) (hl : xs.length ≤ 10000) (E : Env) (h : Heap) (hI : I29 h0 B s xs E h) :
    wA FT HKt b29L0 (E.keep [3, 9, 10, 11]) h (wRound (I29 h0 B s xs) (cnt xs.length 11) (cnt xs.length 11 E h) (R29 h0 B xs)) := by
  obtain ⟨i, hi, hb, rfl⟩ := hI
  have hlt := wordS_len (xs := xs.take i) (fun x hx => hx1 x (List.mem_of_mem_take hx))
  have hli : (xs.take i).length ≤ 10000 := by rw [List.length_take]; omega
  by_cases hlt : i < xs.length
  · obtain ⟨x, hx⟩ : ∃ x, xs[i]? = some x := ⟨_, List.getElem?_eq_getElem hlt⟩
    have hxx := hx1 x (List.mem_of_getElem? hx)
    have h64 := hxx.i64
    obtain ⟨id, off, cap, rfl, hrd⟩ := IsInts.at (IsSl.ext hs hb.ext) hx
    have en : xs.take (i + 1) = xs.take i ++ [x] := take_snoc hx
    have hb1 := fun h hb => call37 h0 h B (wordS (xs.take i)) 32 hb (by omega)
    by_cases hneg : x < 0
    · have hil := Lib.itoa_length_le (-x) (by omega) (by omega)
      have hlT := letT_neg hneg
      have hlen : ([88] ++ Lib.itoa (-x)).length ≤ 100 := by simp; omega
      by_cases h0' : i = 0
      · subst h0'
        have e1 : wordS (xs.take (0 + 1)) = wordS (xs.take 0) ++ ([88] ++ Lib.itoa (-x)) := by rw [en, ← hlT]; simp [wordS, joinS]
        repeat' (first
          | refine w_seq ?_
          | refine w_seqN ?_
          | refine w_seqX ?_
          | refine w_seqR ?_
          | refine w_blk ?_
          | refine w_blkN ?_
          | refine w_blkX ?_
          | refine w_blkR ?_
          | refine w_skip ?_
          | refine w_ret ?_
          | refine w_exit ?_
          | refine w_ops ?_
          | refine w_opsD ?_
          | refine d_one ?_
          | refine d_nil ?_
          | ((refine i_cond ?_); first | refine w_condT rfl ?_ | refine w_condF rfl ?_)
          | ((refine i_nil ?_); first | refine d_same ?_ | refine d_ord ?_ | refine d_ext ⟨_, rfl⟩ ?_ | refine d_ext (extA _ _ _) ?_ | refine d_ext (by assumption) ?_ | refine w_end0 ?_ | refine w_end1 rfl ?_ | refine w_end2 rfl rfl ?_ | refine w_end3 rfl rfl rfl ?_ | refine w_end4 rfl rfl rfl rfl ?_ | refine w_end5 rfl rfl rfl rfl rfl ?_ | refine w_end6 rfl rfl rfl rfl rfl rfl ?_ | refine w_end7 rfl rfl rfl rfl rfl rfl rfl ?_ | refine w_end8 rfl rfl rfl rfl rfl rfl rfl rfl ?_ | refine w_end9 rfl rfl rfl rfl rfl rfl rfl rfl rfl ?_ | refine w_end10 rfl rfl rfl rfl rfl rfl rfl rfl rfl rfl ?_ | refine w_end11 rfl rfl rfl rfl rfl rfl rfl rfl rfl rfl rfl ?_ | refine w_end12 rfl rfl rfl rfl rfl rfl rfl rfl rfl rfl rfl rfl ?_ | refine w_end13 rfl rfl rfl rfl rfl rfl rfl rfl rfl rfl rfl rfl rfl ?_ | refine w_end14 rfl rfl rfl rfl rfl rfl rfl rfl rfl rfl rfl rfl rfl rfl ?_ | refine w_end15 rfl rfl rfl rfl rfl rfl rfl rfl rfl rfl rfl rfl rfl rfl rfl ?_ | refine w_end16 rfl rfl rfl rfl rfl rfl rfl rfl rfl rfl rfl rfl rfl rfl rfl rfl ?_)
          | ((refine i_cons ?_); first
            | refine k_idxA rfl rfl (by omega) ?_
            | refine k_ld rfl hrd ?_
            | (refine k_call rfl (itoa_call (hp.ext hb.ext) (-x) (by omega)) ?_; rintro v h1 ⟨rfl, rfl⟩)
            | refine k_cat rfl rfl (by simp only [List.length_singleton]; omega) ?_
            | (refine k_call rfl (call38 h0 _ B _ _ hb (by omega) (by omega)) ?_; rintro v h2 b2)
            | refine k_skip rfl ?_
            | refine k_skipU rfl ?_
            | refine k_want rfl ?_
            | refine k_mv rfl ?_
            | refine k_pickT rfl rfl ?_
            | refine k_pickF rfl rfl ?_
            | refine k_notT rfl ?_
            | refine k_notF rfl ?_
            | refine k_add rfl rfl (by omega) ?_
            | refine k_sub rfl rfl (by omega) ?_
            | refine k_mul rfl rfl (by omega) ?_
            | refine k_neg rfl (by omega) ?_
            | refine k_quo rfl rfl (by omega) ?_
            | refine k_rem rfl rfl (by omega) ?_
            | refine k_conv rfl (by omega) ?_
            | refine k_max rfl rfl ?_
            | refine k_min rfl rfl ?_
            | refine k_lssT rfl rfl (by omega) ?_
            | refine k_lssF rfl rfl (by omega) ?_
            | refine k_lss rfl rfl (fun hc => ?_) (fun hc => ?_)
            | refine k_leqT rfl rfl (by omega) ?_
            | refine k_leqF rfl rfl (by omega) ?_
            | refine k_leq rfl rfl (fun hc => ?_) (fun hc => ?_)
            | refine k_gtrT rfl rfl (by omega) ?_
            | refine k_gtrF rfl rfl (by omega) ?_
            | refine k_gtr rfl rfl (fun hc => ?_) (fun hc => ?_)
            | refine k_geqT rfl rfl (by omega) ?_
            | refine k_geqF rfl rfl (by omega) ?_
            | refine k_geq rfl rfl (fun hc => ?_) (fun hc => ?_)
            | refine k_eqlT rfl rfl (by omega) ?_
            | refine k_eqlF rfl rfl (by omega) ?_
            | refine k_eql rfl rfl (fun hc => ?_) (fun hc => ?_)
            | refine k_neqT rfl rfl (by omega) ?_
            | refine k_neqF rfl rfl (by omega) ?_
            | refine k_neq rfl rfl (fun hc => ?_) (fun hc => ?_)
            | refine k_len rfl rfl ?_
            | refine k_ok rfl rfl ?_))
        exact w_roundN ⟨0 + 1, by omega, by rw [e1]; exact b2, rfl⟩ (by simp [cnt, Env.get]; omega)
      · have e1 : wordS (xs.take (i + 1)) = wordS (xs.take i) ++ [32] ++ ([88] ++ Lib.itoa (-x)) := by
          rw [en, wordS_snoc x (fun e => by have := congrArg List.length e; rw [List.length_take, List.length_nil] at this; omega), ← hlT]; simp
        repeat' (first
          | refine w_seq ?_
          | refine w_seqN ?_
          | refine w_seqX ?_
          | refine w_seqR ?_
          | refine w_blk ?_
          | refine w_blkN ?_
          | refine w_blkX ?_
          | refine w_blkR ?_
          | refine w_skip ?_
          | refine w_ret ?_
          | refine w_exit ?_
          | refine w_ops ?_
          | refine w_opsD ?_
          | refine d_one ?_
          | refine d_nil ?_
          | ((refine i_cond ?_); first | refine w_condT rfl ?_ | refine w_condF rfl ?_)
          | ((refine i_nil ?_); first | refine d_same ?_ | refine d_ord ?_ | refine d_ext ⟨_, rfl⟩ ?_ | refine d_ext (extA _ _ _) ?_ | refine d_ext (by assumption) ?_ | refine w_end0 ?_ | refine w_end1 rfl ?_ | refine w_end2 rfl rfl ?_ | refine w_end3 rfl rfl rfl ?_ | refine w_end4 rfl rfl rfl rfl ?_ | refine w_end5 rfl rfl rfl rfl rfl ?_ | refine w_end6 rfl rfl rfl rfl rfl rfl ?_ | refine w_end7 rfl rfl rfl rfl rfl rfl rfl ?_ | refine w_end8 rfl rfl rfl rfl rfl rfl rfl rfl ?_ | refine w_end9 rfl rfl rfl rfl rfl rfl rfl rfl rfl ?_ | refine w_end10 rfl rfl rfl rfl rfl rfl rfl rfl rfl rfl ?_ | refine w_end11 rfl rfl rfl rfl rfl rfl rfl rfl rfl rfl rfl ?_ | refine w_end12 rfl rfl rfl rfl rfl rfl rfl rfl rfl rfl rfl rfl ?_ | refine w_end13 rfl rfl rfl rfl rfl rfl rfl rfl rfl rfl rfl rfl rfl ?_ | refine w_end14 rfl rfl rfl rfl rfl rfl rfl rfl rfl rfl rfl rfl rfl rfl ?_ | refine w_end15 rfl rfl rfl rfl rfl rfl rfl rfl rfl rfl rfl rfl rfl rfl rfl ?_ | refine w_end16 rfl rfl rfl rfl rfl rfl rfl rfl rfl rfl rfl rfl rfl rfl rfl rfl ?_)
          | ((refine i_cons ?_); first
            | refine k_idxA rfl rfl (by omega) ?_
            | refine k_ld rfl hrd ?_
            | (refine k_call rfl (hb1 _ hb) ?_; rintro v h1 ⟨rfl, b1⟩)
            | (refine k_call rfl (itoa_call (hp.ext b1.ext) (-x) (by omega)) ?_; rintro v h1 ⟨rfl, rfl⟩)
            | refine k_cat rfl rfl (by simp only [List.length_singleton]; omega) ?_
            | (refine k_call rfl (call38 h0 _ B _ _ b1 (by rw [List.length_append, List.length_singleton]; omega) (by omega)) ?_; rintro v h2 b2)
            | refine k_skip rfl ?_
            | refine k_skipU rfl ?_
            | refine k_want rfl ?_
            | refine k_mv rfl ?_
            | refine k_pickT rfl rfl ?_
            | refine k_pickF rfl rfl ?_
            | refine k_notT rfl ?_
            | refine k_notF rfl ?_
            | refine k_add rfl rfl (by omega) ?_
            | refine k_sub rfl rfl (by omega) ?_
            | refine k_mul rfl rfl (by omega) ?_
            | refine k_neg rfl (by omega) ?_
            | refine k_quo rfl rfl (by omega) ?_
            | refine k_rem rfl rfl (by omega) ?_
            | refine k_conv rfl (by omega) ?_
            | refine k_max rfl rfl ?_
            | refine k_min rfl rfl ?_
            | refine k_lssT rfl rfl (by omega) ?_
            | refine k_lssF rfl rfl (by omega) ?_
            | refine k_lss rfl rfl (fun hc => ?_) (fun hc => ?_)
            | refine k_leqT rfl rfl (by omega) ?_
            | refine k_leqF rfl rfl (by omega) ?_
            | refine k_leq rfl rfl (fun hc => ?_) (fun hc => ?_)
            | refine k_gtrT rfl rfl (by omega) ?_
            | refine k_gtrF rfl rfl (by omega) ?_
            | refine k_gtr rfl rfl (fun hc => ?_) (fun hc => ?_)
            | refine k_geqT rfl rfl (by omega) ?_
            | refine k_geqF rfl rfl (by omega) ?_
            | refine k_geq rfl rfl (fun hc => ?_) (fun hc => ?_)
            | refine k_eqlT rfl rfl (by omega) ?_
            | refine k_eqlF rfl rfl (by omega) ?_
            | refine k_eql rfl rfl (fun hc => ?_) (fun hc => ?_)
            | refine k_neqT rfl rfl (by omega) ?_
            | refine k_neqF rfl rfl (by omega) ?_
            | refine k_neq rfl rfl (fun hc => ?_) (fun hc => ?_)
            | refine k_len rfl rfl ?_
            | refine k_ok rfl rfl ?_))
        exact w_roundN ⟨i + 1, by omega, by rw [e1]; exact b2, rfl⟩ (by simp [cnt, Env.get]; omega)
    · have hil := Lib.itoa_length_le x (by omega) (by omega)
      have hlT := letT_pos hneg
      have hlen : ([120] ++ Lib.itoa x).length ≤ 100 := by simp; omega
      by_cases h0' : i = 0
      · subst h0'
        have e1 : wordS (xs.take (0 + 1)) = wordS (xs.take 0) ++ ([120] ++ Lib.itoa x) := by rw [en, ← hlT]; simp [wordS, joinS]
        repeat' (first
          | refine w_seq ?_
          | refine w_seqN ?_
          | refine w_seqX ?_
          | refine w_seqR ?_
          | refine w_blk ?_
          | refine w_blkN ?_
          | refine w_blkX ?_
          | refine w_blkR ?_
          | refine w_skip ?_
          | refine w_ret ?_
          | refine w_exit ?_
          | refine w_ops ?_
          | refine w_opsD ?_
          | refine d_one ?_
          | refine d_nil ?_
          | ((refine i_cond ?_); first | refine w_condT rfl ?_ | refine w_condF rfl ?_)
          | ((refine i_nil ?_); first | refine d_same ?_ | refine d_ord ?_ | refine d_ext ⟨_, rfl⟩ ?_ | refine d_ext (extA _ _ _) ?_ | refine d_ext (by assumption) ?_ | refine w_end0 ?_ | refine w_end1 rfl ?_ | refine w_end2 rfl rfl ?_ | refine w_end3 rfl rfl rfl ?_ | refine w_end4 rfl rfl rfl rfl ?_ | refine w_end5 rfl rfl rfl rfl rfl ?_ | refine w_end6 rfl rfl rfl rfl rfl rfl ?_ | refine w_end7 rfl rfl rfl rfl rfl rfl rfl ?_ | refine w_end8 rfl rfl rfl rfl rfl rfl rfl rfl ?_ | refine w_end9 rfl rfl rfl rfl rfl rfl rfl rfl rfl ?_ | refine w_end10 rfl rfl rfl rfl rfl rfl rfl rfl rfl rfl ?_ | refine w_end11 rfl rfl rfl rfl rfl rfl rfl rfl rfl rfl rfl ?_ | refine w_end12 rfl rfl rfl rfl rfl rfl rfl rfl rfl rfl rfl rfl ?_ | refine w_end13 rfl rfl rfl rfl rfl rfl rfl rfl rfl rfl rfl rfl rfl ?_ | refine w_end14 rfl rfl rfl rfl rfl rfl rfl rfl rfl rfl rfl rfl rfl rfl ?_ | refine w_end15 rfl rfl rfl rfl rfl rfl rfl rfl rfl rfl rfl rfl rfl rfl rfl ?_ | refine w_end16 rfl rfl rfl rfl rfl rfl rfl rfl rfl rfl rfl rfl rfl rfl rfl rfl ?_)
          | ((refine i_cons ?_); first
            | refine k_idxA rfl rfl (by omega) ?_
            | refine k_ld rfl hrd ?_
            | (refine k_call rfl (itoa_call (hp.ext hb.ext) x (by omega)) ?_; rintro v h1 ⟨rfl, rfl⟩)
            | refine k_cat rfl rfl (by simp only [List.length_singleton]; omega) ?_
            | (refine k_call rfl (call38 h0 _ B _ _ hb (by omega) (by omega)) ?_; rintro v h2 b2)
            | refine k_skip rfl ?_
            | refine k_skipU rfl ?_
            | refine k_want rfl ?_
            | refine k_mv rfl ?_
            | refine k_pickT rfl rfl ?_
            | refine k_pickF rfl rfl ?_
            | refine k_notT rfl ?_
            | refine k_notF rfl ?_
            | refine k_add rfl rfl (by omega) ?_
            | refine k_sub rfl rfl (by omega) ?_
            | refine k_mul rfl rfl (by omega) ?_
            | refine k_neg rfl (by omega) ?_
            | refine k_quo rfl rfl (by omega) ?_
            | refine k_rem rfl rfl (by omega) ?_
            | refine k_conv rfl (by omega) ?_
            | refine k_max rfl rfl ?_
            | refine k_min rfl rfl ?_
            | refine k_lssT rfl rfl (by omega) ?_
            | refine k_lssF rfl rfl (by omega) ?_
            | refine k_lss rfl rfl (fun hc => ?_) (fun hc => ?_)
            | refine k_leqT rfl rfl (by omega) ?_
            | refine k_leqF rfl rfl (by omega) ?_
            | refine k_leq rfl rfl (fun hc => ?_) (fun hc => ?_)
            | refine k_gtrT rfl rfl (by omega) ?_
            | refine k_gtrF rfl rfl (by omega) ?_
            | refine k_gtr rfl rfl (fun hc => ?_) (fun hc => ?_)
            | refine k_geqT rfl rfl (by omega) ?_
            | refine k_geqF rfl rfl (by omega) ?_
            | refine k_geq rfl rfl (fun hc => ?_) (fun hc => ?_)
            | refine k_eqlT rfl rfl (by omega) ?_
            | refine k_eqlF rfl rfl (by omega) ?_
            | refine k_eql rfl rfl (fun hc => ?_) (fun hc => ?_)
            | refine k_neqT rfl rfl (by omega) ?_
            | refine k_neqF rfl rfl (by omega) ?_
            | refine k_neq rfl rfl (fun hc => ?_) (fun hc => ?_)
            | refine k_len rfl rfl ?_
            | refine k_ok rfl rfl ?_))
        exact w_roundN ⟨0 + 1, by omega, by rw [e1]; exact b2, rfl⟩ (by simp [cnt, Env.get]; omega)
      · have e1 : wordS (xs.take (i + 1)) = wordS (xs.take i) ++ [32] ++ ([120] ++ Lib.itoa x) := by
          rw [en, wordS_snoc x (fun e => by have := congrArg List.length e; rw [List.length_take, List.length_nil] at this; omega), ← hlT]; simp
        repeat' (first
          | refine w_seq ?_
          | refine w_seqN ?_
          | refine w_seqX ?_
          | refine w_seqR ?_
          | refine w_blk ?_
          | refine w_blkN ?_
          | refine w_blkX ?_
          | refine w_blkR ?_
          | refine w_skip ?_
          | refine w_ret ?_
          | refine w_exit ?_
          | refine w_ops ?_
          | refine w_opsD ?_
          | refine d_one ?_
          | refine d_nil ?_
          | ((refine i_cond ?_); first | refine w_condT rfl ?_ | refine w_condF rfl ?_)
          | ((refine i_nil ?_); first | refine d_same ?_ | refine d_ord ?_ | refine d_ext ⟨_, rfl⟩ ?_ | refine d_ext (extA _ _ _) ?_ | refine d_ext (by assumption) ?_ | refine w_end0 ?_ | refine w_end1 rfl ?_ | refine w_end2 rfl rfl ?_ | refine w_end3 rfl rfl rfl ?_ | refine w_end4 rfl rfl rfl rfl ?_ | refine w_end5 rfl rfl rfl rfl rfl ?_ | refine w_end6 rfl rfl rfl rfl rfl rfl ?_ | refine w_end7 rfl rfl rfl rfl rfl rfl rfl ?_ | refine w_end8 rfl rfl rfl rfl rfl rfl rfl rfl ?_ | refine w_end9 rfl rfl rfl rfl rfl rfl rfl rfl rfl ?_ | refine w_end10 rfl rfl rfl rfl rfl rfl rfl rfl rfl rfl ?_ | refine w_end11 rfl rfl rfl rfl rfl rfl rfl rfl rfl rfl rfl ?_ | refine w_end12 rfl rfl rfl rfl rfl rfl rfl rfl rfl rfl rfl rfl ?_ | refine w_end13 rfl rfl rfl rfl rfl rfl rfl rfl rfl rfl rfl rfl rfl ?_ | refine w_end14 rfl rfl rfl rfl rfl rfl rfl rfl rfl rfl rfl rfl rfl rfl ?_ | refine w_end15 rfl rfl rfl rfl rfl rfl rfl rfl rfl rfl rfl rfl rfl rfl rfl ?_ | refine w_end16 rfl rfl rfl rfl rfl rfl rfl rfl rfl rfl rfl rfl rfl rfl rfl rfl ?_)
          | ((refine i_cons ?_); first
            | refine k_idxA rfl rfl (by omega) ?_
            | refine k_ld rfl hrd ?_
            | (refine k_call rfl (hb1 _ hb) ?_; rintro v h1 ⟨rfl, b1⟩)
            | (refine k_call rfl (itoa_call (hp.ext b1.ext) x (by omega)) ?_; rintro v h1 ⟨rfl, rfl⟩)
            | refine k_cat rfl rfl (by simp only [List.length_singleton]; omega) ?_
            | (refine k_call rfl (call38 h0 _ B _ _ b1 (by rw [List.length_append, List.length_singleton]; omega) (by omega)) ?_; rintro v h2 b2)
            | refine k_skip rfl ?_
            | refine k_skipU rfl ?_
            | refine k_want rfl ?_
            | refine k_mv rfl ?_
            | refine k_pickT rfl rfl ?_
            | refine k_pickF rfl rfl ?_
            | refine k_notT rfl ?_
            | refine k_notF rfl ?_
            | refine k_add rfl rfl (by omega) ?_
            | refine k_sub rfl rfl (by omega) ?_
            | refine k_mul rfl rfl (by omega) ?_
            | refine k_neg rfl (by omega) ?_
            | refine k_quo rfl rfl (by omega) ?_
            | refine k_rem rfl rfl (by omega) ?_
            | refine k_conv rfl (by omega) ?_
            | refine k_max rfl rfl ?_
            | refine k_min rfl rfl ?_
            | refine k_lssT rfl rfl (by omega) ?_
            | refine k_lssF rfl rfl (by omega) ?_
            | refine k_lss rfl rfl (fun hc => ?_) (fun hc => ?_)
            | refine k_leqT rfl rfl (by omega) ?_
            | refine k_leqF rfl rfl (by omega) ?_
            | refine k_leq rfl rfl (fun hc => ?_) (fun hc => ?_)
            | refine k_gtrT rfl rfl (by omega) ?_
            | refine k_gtrF rfl rfl (by omega) ?_
            | refine k_gtr rfl rfl (fun hc => ?_) (fun hc => ?_)
            | refine k_geqT rfl rfl (by omega) ?_
            | refine k_geqF rfl rfl (by omega) ?_
            | refine k_geq rfl rfl (fun hc => ?_) (fun hc => ?_)
            | refine k_eqlT rfl rfl (by omega) ?_
            | refine k_eqlF rfl rfl (by omega) ?_
            | refine k_eql rfl rfl (fun hc => ?_) (fun hc => ?_)
            | refine k_neqT rfl rfl (by omega) ?_
            | refine k_neqF rfl rfl (by omega) ?_
            | refine k_neq rfl rfl (fun hc => ?_) (fun hc => ?_)
            | refine k_len rfl rfl ?_
            | refine k_ok rfl rfl ?_))
        exact w_roundN ⟨i + 1, by omega, by rw [e1]; exact b2, rfl⟩ (by simp [cnt, Env.get]; omega)
  · repeat' (first
   | refine w_seq ?_
   | refine w_seqN ?_
   | refine w_seqX ?_
   | refine w_seqR ?_
   | refine w_blk ?_
   | refine w_blkN ?_
   | refine w_blkX ?_
   | refine w_blkR ?_
   | refine w_skip ?_
   | refine w_ret ?_
   | refine w_exit ?_
   | refine w_ops ?_
   | refine w_opsD ?_
   | refine d_one ?_
   | refine d_nil ?_
   | ((refine i_cond ?_); first | refine w_condT rfl ?_ | refine w_condF rfl ?_)
   | ((refine i_nil ?_); first | refine d_same ?_ | refine d_ord ?_ | refine d_ext ⟨_, rfl⟩ ?_ | refine d_ext (extA _ _ _) ?_ | refine d_ext (by assumption) ?_ | refine w_end0 ?_ | refine w_end1 rfl ?_ | refine w_end2 rfl rfl ?_ | refine w_end3 rfl rfl rfl ?_ | refine w_end4 rfl rfl rfl rfl ?_ | refine w_end5 rfl rfl rfl rfl rfl ?_ | refine w_end6 rfl rfl rfl rfl rfl rfl ?_ | refine w_end7 rfl rfl rfl rfl rfl rfl rfl ?_ | refine w_end8 rfl rfl rfl rfl rfl rfl rfl rfl ?_ | refine w_end9 rfl rfl rfl rfl rfl rfl rfl rfl rfl ?_ | refine w_end10 rfl rfl rfl rfl rfl rfl rfl rfl rfl rfl ?_ | refine w_end11 rfl rfl rfl rfl rfl rfl rfl rfl rfl rfl rfl ?_ | refine w_end12 rfl rfl rfl rfl rfl rfl rfl rfl rfl rfl rfl rfl ?_ | refine w_end13 rfl rfl rfl rfl rfl rfl rfl rfl rfl rfl rfl rfl rfl ?_ | refine w_end14 rfl rfl rfl rfl rfl rfl rfl rfl rfl rfl rfl rfl rfl rfl ?_ | refine w_end15 rfl rfl rfl rfl rfl rfl rfl rfl rfl rfl rfl rfl rfl rfl rfl ?_ | refine w_end16 rfl rfl rfl rfl rfl rfl rfl rfl rfl rfl rfl rfl rfl rfl rfl rfl ?_)
   | ((refine i_cons ?_); first
     | refine k_skip rfl ?_
     | refine k_skipU rfl ?_
     | refine k_want rfl ?_
     | refine k_mv rfl ?_
     | refine k_pickT rfl rfl ?_
     | refine k_pickF rfl rfl ?_
     | refine k_notT rfl ?_
     | refine k_notF rfl ?_
     | refine k_add rfl rfl (by omega) ?_
     | refine k_sub rfl rfl (by omega) ?_
     | refine k_mul rfl rfl (by omega) ?_
     | refine k_neg rfl (by omega) ?_
     | refine k_quo rfl rfl (by omega) ?_
     | refine k_rem rfl rfl (by omega) ?_
     | refine k_conv rfl (by omega) ?_
     | refine k_max rfl rfl ?_
     | refine k_min rfl rfl ?_
     | refine k_lssT rfl rfl (by omega) ?_
     | refine k_lssF rfl rfl (by omega) ?_
     | refine k_lss rfl rfl (fun hc => ?_) (fun hc => ?_)
     | refine k_leqT rfl rfl (by omega) ?_
     | refine k_leqF rfl rfl (by omega) ?_
     | refine k_leq rfl rfl (fun hc => ?_) (fun hc => ?_)
     | refine k_gtrT rfl rfl (by omega) ?_
     | refine k_gtrF rfl rfl (by omega) ?_
     | refine k_gtr rfl rfl (fun hc => ?_) (fun hc => ?_)
     | refine k_geqT rfl rfl (by omega) ?_
     | refine k_geqF rfl rfl (by omega) ?_
     | refine k_geq rfl rfl (fun hc => ?_) (fun hc => ?_)
     | refine k_eqlT rfl rfl (by omega) ?_
     | refine k_eqlF rfl rfl (by omega) ?_
     | refine k_eql rfl rfl (fun hc => ?_) (fun hc => ?_)
     | refine k_neqT rfl rfl (by omega) ?_
     | refine k_neqF rfl rfl (by omega) ?_
     | refine k_neq rfl rfl (fun hc => ?_) (fun hc => ?_)
     | refine k_len rfl rfl ?_
     | refine k_ok rfl rfl ?_))
    exact w_roundX ⟨rfl, by rwa [List.take_of_length_le (by omega)] at hb, _, _, _, _, rfl⟩
theorem call29 (h0 : Heap) (s : SV) (xs : List Int) (hp : IsPins h0) (hs : IsInts h0 s xs) (hx1 : ∀ x ∈ xs, Ltr x) (hl : xs.length ≤ 10000) :
    ∃ v h', Cal FT HKt 29 [.sc s] h0 v h' ∧ v = .sc (tb (wordT xs)) ∧ Ext h0 h' := by
  refine Cal.of (F := a29) rfl rfl rfl ?_
  have hln := IsSl.len hs
  have hlt := wordS_len hx1
  unfold wordT
  by_cases hn : xs = []
  · subst hn
    have hl0 : lenS false s = some (0 : Int) := hln
    rw [if_pos rfl]
    repeat' (first
      | refine w_seq ?_
      | refine w_seqN ?_
      | refine w_seqX ?_
      | refine w_seqR ?_
      | refine w_blk ?_
      | refine w_blkN ?_
      | refine w_blkX ?_
      | refine w_blkR ?_
      | refine w_skip ?_
      | refine w_ret ?_
      | refine w_exit ?_
      | refine w_ops ?_
      | refine w_opsD ?_
      | refine d_one ?_
      | refine d_nil ?_
      | ((refine i_cond ?_); first | refine w_condT rfl ?_ | refine w_condF rfl ?_)
      | ((refine i_nil ?_); first | refine d_same ?_ | refine d_ord ?_ | refine d_ext ⟨_, rfl⟩ ?_ | refine d_ext (extA _ _ _) ?_ | refine d_ext (by assumption) ?_ | refine w_end0 ?_ | refine w_end1 rfl ?_ | refine w_end2 rfl rfl ?_ | refine w_end3 rfl rfl rfl ?_ | refine w_end4 rfl rfl rfl rfl ?_ | refine w_end5 rfl rfl rfl rfl rfl ?_ | refine w_end6 rfl rfl rfl rfl rfl rfl ?_ | refine w_end7 rfl rfl rfl rfl rfl rfl rfl ?_ | refine w_end8 rfl rfl rfl rfl rfl rfl rfl rfl ?_ | refine w_end9 rfl rfl rfl rfl rfl rfl rfl rfl rfl ?_ | refine w_end10 rfl rfl rfl rfl rfl rfl rfl rfl rfl rfl ?_ | refine w_end11 rfl rfl rfl rfl rfl rfl rfl rfl rfl rfl rfl ?_ | refine w_end12 rfl rfl rfl rfl rfl rfl rfl rfl rfl rfl rfl rfl ?_ | refine w_end13 rfl rfl rfl rfl rfl rfl rfl rfl rfl rfl rfl rfl rfl ?_ | refine w_end14 rfl rfl rfl rfl rfl rfl rfl rfl rfl rfl rfl rfl rfl rfl ?_ | refine w_end15 rfl rfl rfl rfl rfl rfl rfl rfl rfl rfl rfl rfl rfl rfl rfl ?_ | refine w_end16 rfl rfl rfl rfl rfl rfl rfl rfl rfl rfl rfl rfl rfl rfl rfl rfl ?_)
      | ((refine i_cons ?_); first
        | refine k_len rfl hl0 ?_
        | refine k_skip rfl ?_
        | refine k_skipU rfl ?_
        | refine k_want rfl ?_
        | refine k_mv rfl ?_
        | refine k_pickT rfl rfl ?_
        | refine k_pickF rfl rfl ?_
        | refine k_notT rfl ?_
        | refine k_notF rfl ?_
        | refine k_add rfl rfl (by omega) ?_
        | refine k_sub rfl rfl (by omega) ?_
        | refine k_mul rfl rfl (by omega) ?_
        | refine k_neg rfl (by omega) ?_
        | refine k_quo rfl rfl (by omega) ?_
        | refine k_rem rfl rfl (by omega) ?_
        | refine k_conv rfl (by omega) ?_
        | refine k_max rfl rfl ?_
        | refine k_min rfl rfl ?_
        | refine k_lssT rfl rfl (by omega) ?_
        | refine k_lssF rfl rfl (by omega) ?_
        | refine k_lss rfl rfl (fun hc => ?_) (fun hc => ?_)
        | refine k_leqT rfl rfl (by omega) ?_
        | refine k_leqF rfl rfl (by omega) ?_
        | refine k_leq rfl rfl (fun hc => ?_) (fun hc => ?_)
        | refine k_gtrT rfl rfl (by omega) ?_
        | refine k_gtrF rfl rfl (by omega) ?_
        | refine k_gtr rfl rfl (fun hc => ?_) (fun hc => ?_)
        | refine k_geqT rfl rfl (by omega) ?_
        | refine k_geqF rfl rfl (by omega) ?_
        | refine k_geq rfl rfl (fun hc => ?_) (fun hc => ?_)
        | refine k_eqlT rfl rfl (by omega) ?_
        | refine k_eqlF rfl rfl (by omega) ?_
        | refine k_eql rfl rfl (fun hc => ?_) (fun hc => ?_)
        | refine k_neqT rfl rfl (by omega) ?_
        | refine k_neqF rfl rfl (by omega) ?_
        | refine k_neq rfl rfl (fun hc => ?_) (fun hc => ?_)
        | refine k_len rfl rfl ?_
        | refine k_ok rfl rfl ?_))
    exact ⟨.inr rfl, rfl, Ext.refl _⟩
  · have hpos : 0 < xs.length := List.length_pos_iff.2 hn
    rw [if_neg hn]
    repeat' (first
      | refine w_seq ?_
      | refine w_seqN ?_
      | refine w_seqX ?_
      | refine w_seqR ?_
      | refine w_blk ?_
      | refine w_blkN ?_
      | refine w_blkX ?_
      | refine w_blkR ?_
      | refine w_skip ?_
      | refine w_ret ?_
      | refine w_exit ?_
      | refine w_ops ?_
      | refine w_opsD ?_
      | refine d_one ?_
      | refine d_nil ?_
      | ((refine i_cond ?_); first | refine w_condT rfl ?_ | refine w_condF rfl ?_)
      | ((refine i_nil ?_); first | refine d_same ?_ | refine d_ord ?_ | refine d_ext ⟨_, rfl⟩ ?_ | refine d_ext (extA _ _ _) ?_ | refine d_ext (by assumption) ?_ | refine w_end0 ?_ | refine w_end1 rfl ?_ | refine w_end2 rfl rfl ?_ | refine w_end3 rfl rfl rfl ?_ | refine w_end4 rfl rfl rfl rfl ?_ | refine w_end5 rfl rfl rfl rfl rfl ?_ | refine w_end6 rfl rfl rfl rfl rfl rfl ?_ | refine w_end7 rfl rfl rfl rfl rfl rfl rfl ?_ | refine w_end8 rfl rfl rfl rfl rfl rfl rfl rfl ?_ | refine w_end9 rfl rfl rfl rfl rfl rfl rfl rfl rfl ?_ | refine w_end10 rfl rfl rfl rfl rfl rfl rfl rfl rfl rfl ?_ | refine w_end11 rfl rfl rfl rfl rfl rfl rfl rfl rfl rfl rfl ?_ | refine w_end12 rfl rfl rfl rfl rfl rfl rfl rfl rfl rfl rfl rfl ?_ | refine w_end13 rfl rfl rfl rfl rfl rfl rfl rfl rfl rfl rfl rfl rfl ?_ | refine w_end14 rfl rfl rfl rfl rfl rfl rfl rfl rfl rfl rfl rfl rfl rfl ?_ | refine w_end15 rfl rfl rfl rfl rfl rfl rfl rfl rfl rfl rfl rfl rfl rfl rfl ?_ | refine w_end16 rfl rfl rfl rfl rfl rfl rfl rfl rfl rfl rfl rfl rfl rfl rfl rfl ?_)
      | ((refine i_cons ?_); first
        | refine k_newT ?_
        | refine k_len rfl hln ?_
        | refine k_skip rfl ?_
        | refine k_skipU rfl ?_
        | refine k_want rfl ?_
        | refine k_mv rfl ?_
        | refine k_pickT rfl rfl ?_
        | refine k_pickF rfl rfl ?_
        | refine k_notT rfl ?_
        | refine k_notF rfl ?_
        | refine k_add rfl rfl (by omega) ?_
        | refine k_sub rfl rfl (by omega) ?_
        | refine k_mul rfl rfl (by omega) ?_
        | refine k_neg rfl (by omega) ?_
        | refine k_quo rfl rfl (by omega) ?_
        | refine k_rem rfl rfl (by omega) ?_
        | refine k_conv rfl (by omega) ?_
        | refine k_max rfl rfl ?_
        | refine k_min rfl rfl ?_
        | refine k_lssT rfl rfl (by omega) ?_
        | refine k_lssF rfl rfl (by omega) ?_
        | refine k_lss rfl rfl (fun hc => ?_) (fun hc => ?_)
        | refine k_leqT rfl rfl (by omega) ?_
        | refine k_leqF rfl rfl (by omega) ?_
        | refine k_leq rfl rfl (fun hc => ?_) (fun hc => ?_)
        | refine k_gtrT rfl rfl (by omega) ?_
        | refine k_gtrF rfl rfl (by omega) ?_
        | refine k_gtr rfl rfl (fun hc => ?_) (fun hc => ?_)
        | refine k_geqT rfl rfl (by omega) ?_
        | refine k_geqF rfl rfl (by omega) ?_
        | refine k_geq rfl rfl (fun hc => ?_) (fun hc => ?_)
        | refine k_eqlT rfl rfl (by omega) ?_
        | refine k_eqlF rfl rfl (by omega) ?_
        | refine k_eql rfl rfl (fun hc => ?_) (fun hc => ?_)
        | refine k_neqT rfl rfl (by omega) ?_
        | refine k_neqF rfl rfl (by omega) ?_
        | refine k_neq rfl rfl (fun hc => ?_) (fun hc => ?_)
        | refine k_len rfl rfl ?_
        | refine k_ok rfl rfl ?_))
    refine w_loop (I29 h0 _ s xs) (cnt xs.length 11) (R29 h0 _ xs) ⟨0, Nat.zero_le _, Bld.new 59 bz (Ext.refl h0), rfl⟩ (round29 h0 _ s xs hp hs hx1 hl) ?_
    rintro ex E' h' ⟨rfl, hb, a, b, c, d, rfl⟩
    repeat' (first
      | refine w_seq ?_
      | refine w_seqN ?_
      | refine w_seqX ?_
      | refine w_seqR ?_
      | refine w_blk ?_
      | refine w_blkN ?_
      | refine w_blkX ?_
      | refine w_blkR ?_
      | refine w_skip ?_
      | refine w_ret ?_
      | refine w_exit ?_
      | refine w_ops ?_
      | refine w_opsD ?_
      | refine d_one ?_
      | refine d_nil ?_
      | ((refine i_cond ?_); first | refine w_condT rfl ?_ | refine w_condF rfl ?_)
      | ((refine i_nil ?_); first | refine d_same ?_ | refine d_ord ?_ | refine d_ext ⟨_, rfl⟩ ?_ | refine d_ext (extA _ _ _) ?_ | refine d_ext (by assumption) ?_ | refine w_end0 ?_ | refine w_end1 rfl ?_ | refine w_end2 rfl rfl ?_ | refine w_end3 rfl rfl rfl ?_ | refine w_end4 rfl rfl rfl rfl ?_ | refine w_end5 rfl rfl rfl rfl rfl ?_ | refine w_end6 rfl rfl rfl rfl rfl rfl ?_ | refine w_end7 rfl rfl rfl rfl rfl rfl rfl ?_ | refine w_end8 rfl rfl rfl rfl rfl rfl rfl rfl ?_ | refine w_end9 rfl rfl rfl rfl rfl rfl rfl rfl rfl ?_ | refine w_end10 rfl rfl rfl rfl rfl rfl rfl rfl rfl rfl ?_ | refine w_end11 rfl rfl rfl rfl rfl rfl rfl rfl rfl rfl rfl ?_ | refine w_end12 rfl rfl rfl rfl rfl rfl rfl rfl rfl rfl rfl rfl ?_ | refine w_end13 rfl rfl rfl rfl rfl rfl rfl rfl rfl rfl rfl rfl rfl ?_ | refine w_end14 rfl rfl rfl rfl rfl rfl rfl rfl rfl rfl rfl rfl rfl rfl ?_ | refine w_end15 rfl rfl rfl rfl rfl rfl rfl rfl rfl rfl rfl rfl rfl rfl rfl ?_ | refine w_end16 rfl rfl rfl rfl rfl rfl rfl rfl rfl rfl rfl rfl rfl rfl rfl rfl ?_)
      | ((refine i_cons ?_); first
        | (refine k_call rfl (call40 h0 _ _ _ hb (by omega)) ?_; rintro v h2 ⟨rfl, e2⟩)
        | refine k_skip rfl ?_
        | refine k_skipU rfl ?_
        | refine k_want rfl ?_
        | refine k_mv rfl ?_
        | refine k_pickT rfl rfl ?_
        | refine k_pickF rfl rfl ?_
        | refine k_notT rfl ?_
        | refine k_notF rfl ?_
        | refine k_add rfl rfl (by omega) ?_
        | refine k_sub rfl rfl (by omega) ?_
        | refine k_mul rfl rfl (by omega) ?_
        | refine k_neg rfl (by omega) ?_
        | refine k_quo rfl rfl (by omega) ?_
        | refine k_rem rfl rfl (by omega) ?_
        | refine k_conv rfl (by omega) ?_
        | refine k_max rfl rfl ?_
        | refine k_min rfl rfl ?_
        | refine k_lssT rfl rfl (by omega) ?_
        | refine k_lssF rfl rfl (by omega) ?_
        | refine k_lss rfl rfl (fun hc => ?_) (fun hc => ?_)
        | refine k_leqT rfl rfl (by omega) ?_
        | refine k_leqF rfl rfl (by omega) ?_
        | refine k_leq rfl rfl (fun hc => ?_) (fun hc => ?_)
        | refine k_gtrT rfl rfl (by omega) ?_
        | refine k_gtrF rfl rfl (by omega) ?_
        | refine k_gtr rfl rfl (fun hc => ?_) (fun hc => ?_)
        | refine k_geqT rfl rfl (by omega) ?_
        | refine k_geqF rfl rfl (by omega) ?_
        | refine k_geq rfl rfl (fun hc => ?_) (fun hc => ?_)
        | refine k_eqlT rfl rfl (by omega) ?_
        | refine k_eqlF rfl rfl (by omega) ?_
        | refine k_eql rfl rfl (fun hc => ?_) (fun hc => ?_)
        | refine k_neqT rfl rfl (by omega) ?_
        | refine k_neqF rfl rfl (by omega) ?_
        | refine k_neq rfl rfl (fun hc => ?_) (fun hc => ?_)
        | refine k_len rfl rfl ?_
        | refine k_ok rfl rfl ?_))
    exact ⟨.inr rfl, rfl, e2⟩

/-! ### the reference's Format -/
theorem call43 (h0 : Heap) : ∀ (k n : Nat), n ≤ k → n ≤ 10000000 → ∃ v h', Cal FT HKt 43 [.sc (.int .i64 (n : Int))] h0 v h' ∧ h' = h0 ∧ v = .sc (tb (Lib.decDigits n)) := by
  intro k
  induction k with
  | zero =>
    intro n hn _
    have hn0 : n = 0 := by omega
    subst hn0
    refine Cal.of (F := a43) rfl rfl rfl ?_
    rw [Lib.decDigits_one (by decide)]
    repeat' (first
      | refine w_seq ?_
      | refine w_seqN ?_
      | refine w_seqX ?_
      | refine w_seqR ?_
      | refine w_blk ?_
      | refine w_blkN ?_
      | refine w_blkX ?_
      | refine w_blkR ?_
      | refine w_skip ?_
      | refine w_ret ?_
      | refine w_exit ?_
      | refine w_ops ?_
      | refine w_opsD ?_
      | refine d_one ?_
      | refine d_nil ?_
      | ((refine i_cond ?_); first | refine w_condT rfl ?_ | refine w_condF rfl ?_)
      | ((refine i_nil ?_); first | refine d_same ?_ | refine d_ord ?_ | refine d_ext ⟨_, rfl⟩ ?_ | refine d_ext (extA _ _ _) ?_ | refine d_ext (by assumption) ?_ | refine w_end0 ?_ | refine w_end1 rfl ?_ | refine w_end2 rfl rfl ?_ | refine w_end3 rfl rfl rfl ?_ | refine w_end4 rfl rfl rfl rfl ?_ | refine w_end5 rfl rfl rfl rfl rfl ?_ | refine w_end6 rfl rfl rfl rfl rfl rfl ?_ | refine w_end7 rfl rfl rfl rfl rfl rfl rfl ?_ | refine w_end8 rfl rfl rfl rfl rfl rfl rfl rfl ?_ | refine w_end9 rfl rfl rfl rfl rfl rfl rfl rfl rfl ?_ | refine w_end10 rfl rfl rfl rfl rfl rfl rfl rfl rfl rfl ?_ | refine w_end11 rfl rfl rfl rfl rfl rfl rfl rfl rfl rfl rfl ?_ | refine w_end12 rfl rfl rfl rfl rfl rfl rfl rfl rfl rfl rfl rfl ?_ | refine w_end13 rfl rfl rfl rfl rfl rfl rfl rfl rfl rfl rfl rfl rfl ?_ | refine w_end14 rfl rfl rfl rfl rfl rfl rfl rfl rfl rfl rfl rfl rfl rfl ?_ | refine w_end15 rfl rfl rfl rfl rfl rfl rfl rfl rfl rfl rfl rfl rfl rfl rfl ?_ | refine w_end16 rfl rfl rfl rfl rfl rfl rfl rfl rfl rfl rfl rfl rfl rfl rfl rfl ?_)
      | ((refine i_cons ?_); first
        | refine k_dig rfl rfl rfl (by omega) ?_
        | refine k_skip rfl ?_
        | refine k_skipU rfl ?_
        | refine k_want rfl ?_
        | refine k_mv rfl ?_
        | refine k_pickT rfl rfl ?_
        | refine k_pickF rfl rfl ?_
        | refine k_notT rfl ?_
        | refine k_notF rfl ?_
        | refine k_add rfl rfl (by omega) ?_
        | refine k_sub rfl rfl (by omega) ?_
        | refine k_mul rfl rfl (by omega) ?_
        | refine k_neg rfl (by omega) ?_
        | refine k_quo rfl rfl (by omega) ?_
        | refine k_rem rfl rfl (by omega) ?_
        | refine k_conv rfl (by omega) ?_
        | refine k_max rfl rfl ?_
        | refine k_min rfl rfl ?_
        | refine k_lssT rfl rfl (by omega) ?_
        | refine k_lssF rfl rfl (by omega) ?_
        | refine k_lss rfl rfl (fun hc => ?_) (fun hc => ?_)
        | refine k_leqT rfl rfl (by omega) ?_
        | refine k_leqF rfl rfl (by omega) ?_
        | refine k_leq rfl rfl (fun hc => ?_) (fun hc => ?_)
        | refine k_gtrT rfl rfl (by omega) ?_
        | refine k_gtrF rfl rfl (by omega) ?_
        | refine k_gtr rfl rfl (fun hc => ?_) (fun hc => ?_)
        | refine k_geqT rfl rfl (by omega) ?_
        | refine k_geqF rfl rfl (by omega) ?_
        | refine k_geq rfl rfl (fun hc => ?_) (fun hc => ?_)
        | refine k_eqlT rfl rfl (by omega) ?_
        | refine k_eqlF rfl rfl (by omega) ?_
        | refine k_eql rfl rfl (fun hc => ?_) (fun hc => ?_)
        | refine k_neqT rfl rfl (by omega) ?_
        | refine k_neqF rfl rfl (by omega) ?_
        | refine k_neq rfl rfl (fun hc => ?_) (fun hc => ?_)
        | refine k_len rfl rfl ?_
        | refine k_ok rfl rfl ?_))
    exact ⟨.inr rfl, rfl, rfl⟩
  | succ k ih =>
    intro n hn hb
    refine Cal.of (F := a43) rfl rfl rfl ?_
    by_cases h : n < 10
    · rw [Lib.decDigits_one h]
      have e1 : ((n : Int) % 10).toNat = n := by omega
      repeat' (first
        | refine w_seq ?_
        | refine w_seqN ?_
        | refine w_seqX ?_
        | refine w_seqR ?_
        | refine w_blk ?_
        | refine w_blkN ?_
        | refine w_blkX ?_
        | refine w_blkR ?_
        | refine w_skip ?_
        | refine w_ret ?_
        | refine w_exit ?_
        | refine w_ops ?_
        | refine w_opsD ?_
        | refine d_one ?_
        | refine d_nil ?_
        | ((refine i_cond ?_); first | refine w_condT rfl ?_ | refine w_condF rfl ?_)
        | ((refine i_nil ?_); first | refine d_same ?_ | refine d_ord ?_ | refine d_ext ⟨_, rfl⟩ ?_ | refine d_ext (extA _ _ _) ?_ | refine d_ext (by assumption) ?_ | refine w_end0 ?_ | refine w_end1 rfl ?_ | refine w_end2 rfl rfl ?_ | refine w_end3 rfl rfl rfl ?_ | refine w_end4 rfl rfl rfl rfl ?_ | refine w_end5 rfl rfl rfl rfl rfl ?_ | refine w_end6 rfl rfl rfl rfl rfl rfl ?_ | refine w_end7 rfl rfl rfl rfl rfl rfl rfl ?_ | refine w_end8 rfl rfl rfl rfl rfl rfl rfl rfl ?_ | refine w_end9 rfl rfl rfl rfl rfl rfl rfl rfl rfl ?_ | refine w_end10 rfl rfl rfl rfl rfl rfl rfl rfl rfl rfl ?_ | refine w_end11 rfl rfl rfl rfl rfl rfl rfl rfl rfl rfl rfl ?_ | refine w_end12 rfl rfl rfl rfl rfl rfl rfl rfl rfl rfl rfl rfl ?_ | refine w_end13 rfl rfl rfl rfl rfl rfl rfl rfl rfl rfl rfl rfl rfl ?_ | refine w_end14 rfl rfl rfl rfl rfl rfl rfl rfl rfl rfl rfl rfl rfl rfl ?_ | refine w_end15 rfl rfl rfl rfl rfl rfl rfl rfl rfl rfl rfl rfl rfl rfl rfl ?_ | refine w_end16 rfl rfl rfl rfl rfl rfl rfl rfl rfl rfl rfl rfl rfl rfl rfl rfl ?_)
        | ((refine i_cons ?_); first
          | refine k_dig rfl rfl rfl (by omega) ?_
          | refine k_skip rfl ?_
          | refine k_skipU rfl ?_
          | refine k_want rfl ?_
          | refine k_mv rfl ?_
          | refine k_pickT rfl rfl ?_
          | refine k_pickF rfl rfl ?_
          | refine k_notT rfl ?_
          | refine k_notF rfl ?_
          | refine k_add rfl rfl (by omega) ?_
          | refine k_sub rfl rfl (by omega) ?_
          | refine k_mul rfl rfl (by omega) ?_
          | refine k_neg rfl (by omega) ?_
          | refine k_quo rfl rfl (by omega) ?_
          | refine k_rem rfl rfl (by omega) ?_
          | refine k_conv rfl (by omega) ?_
          | refine k_max rfl rfl ?_
          | refine k_min rfl rfl ?_
          | refine k_lssT rfl rfl (by omega) ?_
          | refine k_lssF rfl rfl (by omega) ?_
          | refine k_lss rfl rfl (fun hc => ?_) (fun hc => ?_)
          | refine k_leqT rfl rfl (by omega) ?_
          | refine k_leqF rfl rfl (by omega) ?_
          | refine k_leq rfl rfl (fun hc => ?_) (fun hc => ?_)
          | refine k_gtrT rfl rfl (by omega) ?_
          | refine k_gtrF rfl rfl (by omega) ?_
          | refine k_gtr rfl rfl (fun hc => ?_) (fun hc => ?_)
          | refine k_geqT rfl rfl (by omega) ?_
          | refine k_geqF rfl rfl (by omega) ?_
          | refine k_geq rfl rfl (fun hc => ?_) (fun hc => ?_)
          | refine k_eqlT rfl rfl (by omega) ?_
          | refine k_eqlF rfl rfl (by omega) ?_
          | refine k_eql rfl rfl (fun hc => ?_) (fun hc => ?_)
          | refine k_neqT rfl rfl (by omega) ?_
          | refine k_neqF rfl rfl (by omega) ?_
          | refine k_neq rfl rfl (fun hc => ?_) (fun hc => ?_)
          | refine k_len rfl rfl ?_
          | refine k_ok rfl rfl ?_))
      exact ⟨.inr rfl, rfl, by rw [e1]; rfl⟩
    · rw [Lib.decDigits, dif_neg h]
      have e1 : ((n : Int) % 10).toNat = n % 10 := by omega
      have e2 : ((n / 10 : Nat) : Int) = (n : Int) / 10 := by omega
      have k1 := ih (n / 10) (by omega) (by omega)
      rw [e2] at k1
      have hl : (Lib.decDigits (n / 10)).length ≤ 21 := by
        have := Lib.itoa_length_le ((n / 10 : Nat) : Int) (by omega) (by omega)
        rwa [Lib.itoa_nonneg] at this
      repeat' (first
        | refine w_seq ?_
        | refine w_seqN ?_
        | refine w_seqX ?_
        | refine w_seqR ?_
        | refine w_blk ?_
        | refine w_blkN ?_
        | refine w_blkX ?_
        | refine w_blkR ?_
        | refine w_skip ?_
        | refine w_ret ?_
        | refine w_exit ?_
        | refine w_ops ?_
        | refine w_opsD ?_
        | refine d_one ?_
        | refine d_nil ?_
        | ((refine i_cond ?_); first | refine w_condT rfl ?_ | refine w_condF rfl ?_)
        | ((refine i_nil ?_); first | refine d_same ?_ | refine d_ord ?_ | refine d_ext ⟨_, rfl⟩ ?_ | refine d_ext (extA _ _ _) ?_ | refine d_ext (by assumption) ?_ | refine w_end0 ?_ | refine w_end1 rfl ?_ | refine w_end2 rfl rfl ?_ | refine w_end3 rfl rfl rfl ?_ | refine w_end4 rfl rfl rfl rfl ?_ | refine w_end5 rfl rfl rfl rfl rfl ?_ | refine w_end6 rfl rfl rfl rfl rfl rfl ?_ | refine w_end7 rfl rfl rfl rfl rfl rfl rfl ?_ | refine w_end8 rfl rfl rfl rfl rfl rfl rfl rfl ?_ | refine w_end9 rfl rfl rfl rfl rfl rfl rfl rfl rfl ?_ | refine w_end10 rfl rfl rfl rfl rfl rfl rfl rfl rfl rfl ?_ | refine w_end11 rfl rfl rfl rfl rfl rfl rfl rfl rfl rfl rfl ?_ | refine w_end12 rfl rfl rfl rfl rfl rfl rfl rfl rfl rfl rfl rfl ?_ | refine w_end13 rfl rfl rfl rfl rfl rfl rfl rfl rfl rfl rfl rfl rfl ?_ | refine w_end14 rfl rfl rfl rfl rfl rfl rfl rfl rfl rfl rfl rfl rfl rfl ?_ | refine w_end15 rfl rfl rfl rfl rfl rfl rfl rfl rfl rfl rfl rfl rfl rfl rfl ?_ | refine w_end16 rfl rfl rfl rfl rfl rfl rfl rfl rfl rfl rfl rfl rfl rfl rfl rfl ?_)
        | ((refine i_cons ?_); first
          | refine k_dig rfl rfl rfl (by omega) ?_
          | (refine k_call rfl k1 ?_; rintro v h1 ⟨rfl, rfl⟩)
          | refine k_cat rfl rfl (by simp only [List.length_singleton]; omega) ?_
          | refine k_skip rfl ?_
          | refine k_skipU rfl ?_
          | refine k_want rfl ?_
          | refine k_mv rfl ?_
          | refine k_pickT rfl rfl ?_
          | refine k_pickF rfl rfl ?_
          | refine k_notT rfl ?_
          | refine k_notF rfl ?_
          | refine k_add rfl rfl (by omega) ?_
          | refine k_sub rfl rfl (by omega) ?_
          | refine k_mul rfl rfl (by omega) ?_
          | refine k_neg rfl (by omega) ?_
          | refine k_quo rfl rfl (by omega) ?_
          | refine k_rem rfl rfl (by omega) ?_
          | refine k_conv rfl (by omega) ?_
          | refine k_max rfl rfl ?_
          | refine k_min rfl rfl ?_
          | refine k_lssT rfl rfl (by omega) ?_
          | refine k_lssF rfl rfl (by omega) ?_
          | refine k_lss rfl rfl (fun hc => ?_) (fun hc => ?_)
          | refine k_leqT rfl rfl (by omega) ?_
          | refine k_leqF rfl rfl (by omega) ?_
          | refine k_leq rfl rfl (fun hc => ?_) (fun hc => ?_)
          | refine k_gtrT rfl rfl (by omega) ?_
          | refine k_gtrF rfl rfl (by omega) ?_
          | refine k_gtr rfl rfl (fun hc => ?_) (fun hc => ?_)
          | refine k_geqT rfl rfl (by omega) ?_
          | refine k_geqF rfl rfl (by omega) ?_
          | refine k_geq rfl rfl (fun hc => ?_) (fun hc => ?_)
          | refine k_eqlT rfl rfl (by omega) ?_
          | refine k_eqlF rfl rfl (by omega) ?_
          | refine k_eql rfl rfl (fun hc => ?_) (fun hc => ?_)
          | refine k_neqT rfl rfl (by omega) ?_
          | refine k_neqF rfl rfl (by omega) ?_
          | refine k_neq rfl rfl (fun hc => ?_) (fun hc => ?_)
          | refine k_len rfl rfl ?_
          | refine k_ok rfl rfl ?_))
      exact ⟨.inr rfl, rfl, by rw [e1]; rfl⟩
theorem dec43 (h0 : Heap) (x : Int) (hx : 0 ≤ x ∧ x ≤ 10000000) : ∃ v h', Cal FT HKt 43 [.sc (.int .i64 x)] h0 v h' ∧ h' = h0 ∧ v = .sc (tb (Lib.itoa x)) := by
  have := call43 h0 x.toNat x.toNat (Nat.le_refl _) (by omega)
  rw [show ((x.toNat : Nat) : Int) = x by omega] at this
  rw [itoa_nat hx.1]
  exact this
def I31 (h0 : Heap) (s : SV) (xs : List Int) (E : Env) (h : Heap) : Prop := ∃ i : Nat, i ≤ xs.length ∧ h = h0 ∧
  E = [(0, some (.sc s)), (3, some (.sc (tb (wordS (xs.take i))))), (4, some (.sc (.int .i64 i)))]
def R31 (h0 : Heap) (xs : List Int) (ex : Ex) (E : Env) (h : Heap) : Prop := ex = .ex 0 ∧ h = h0 ∧ ∃ a b d, E = [(0, a), (3, some (.sc (tb (wordS xs)))), (4, b), (11, d)]
theorem round31 (h0 : Heap) (s : SV) (xs : List Int) (hs : IsInts h0 s xs) (hx1 : ∀ x ∈ xs, Ltr x) (hl : xs.length ≤ 10000) (E : Env) (h : Heap) (hI : I31 h0 s xs E h) :
    wA FT HKt b31L0 (E.keep [0, 3, 4]) h (wRound (I31 h0 s xs) (cnt xs.length 4) (cnt xs.length 4 E h) (R31 h0 xs)) := by
  obtain ⟨i, hi, rfl, rfl⟩ := hI
  have hln := IsSl.len hs
  have hlt := wordS_len (xs := xs.take i) (fun x hx => hx1 x (List.mem_of_mem_take hx))
  have hli : (xs.take i).length ≤ 10000 := by rw [List.length_take]; omega
  by_cases hlt : i < xs.length
  · obtain ⟨x, hx⟩ : ∃ x, xs[i]? = some x := ⟨_, List.getElem?_eq_getElem hlt⟩
    have hxx := hx1 x (List.mem_of_getElem? hx)
    have h64 := hxx.i64
    have hxL := hxx
    unfold Ltr at hxL
    obtain ⟨id, off, cap, rfl, hrd⟩ := IsInts.at hs hx
    have en : xs.take (i + 1) = xs.take i ++ [x] := take_snoc hx
    by_cases hneg : x < 0
    · have hil := Lib.itoa_length_le (-x) (by omega) (by omega)
      have hlT := letT_neg hneg
      by_cases h0' : i = 0
      · subst h0'
        have e1 : wordS (xs.take (0 + 1)) = wordS (xs.take 0) ++ [88] ++ Lib.itoa (-x) := by rw [en, List.append_assoc, ← hlT]; simp [wordS, joinS]
        repeat' (first
          | refine w_seq ?_
          | refine w_seqN ?_
          | refine w_seqX ?_
          | refine w_seqR ?_
          | refine w_blk ?_
          | refine w_blkN ?_
          | refine w_blkX ?_
          | refine w_blkR ?_
          | refine w_skip ?_
          | refine w_ret ?_
          | refine w_exit ?_
          | refine w_ops ?_
          | refine w_opsD ?_
          | refine d_one ?_
          | refine d_nil ?_
          | ((refine i_cond ?_); first | refine w_condT rfl ?_ | refine w_condF rfl ?_)
          | ((refine i_nil ?_); first | refine d_same ?_ | refine d_ord ?_ | refine d_ext ⟨_, rfl⟩ ?_ | refine d_ext (extA _ _ _) ?_ | refine d_ext (by assumption) ?_ | refine w_end0 ?_ | refine w_end1 rfl ?_ | refine w_end2 rfl rfl ?_ | refine w_end3 rfl rfl rfl ?_ | refine w_end4 rfl rfl rfl rfl ?_ | refine w_end5 rfl rfl rfl rfl rfl ?_ | refine w_end6 rfl rfl rfl rfl rfl rfl ?_ | refine w_end7 rfl rfl rfl rfl rfl rfl rfl ?_ | refine w_end8 rfl rfl rfl rfl rfl rfl rfl rfl ?_ | refine w_end9 rfl rfl rfl rfl rfl rfl rfl rfl rfl ?_ | refine w_end10 rfl rfl rfl rfl rfl rfl rfl rfl rfl rfl ?_ | refine w_end11 rfl rfl rfl rfl rfl rfl rfl rfl rfl rfl rfl ?_ | refine w_end12 rfl rfl rfl rfl rfl rfl rfl rfl rfl rfl rfl rfl ?_ | refine w_end13 rfl rfl rfl rfl rfl rfl rfl rfl rfl rfl rfl rfl rfl ?_ | refine w_end14 rfl rfl rfl rfl rfl rfl rfl rfl rfl rfl rfl rfl rfl rfl ?_ | refine w_end15 rfl rfl rfl rfl rfl rfl rfl rfl rfl rfl rfl rfl rfl rfl rfl ?_ | refine w_end16 rfl rfl rfl rfl rfl rfl rfl rfl rfl rfl rfl rfl rfl rfl rfl rfl ?_)
          | ((refine i_cons ?_); first
            | refine k_len rfl hln ?_
            | refine k_idxA rfl rfl (by omega) ?_
            | refine k_ld rfl hrd ?_
            | (refine k_call rfl (dec43 _ (-x) (by omega)) ?_; rintro v h1 ⟨rfl, rfl⟩)
            | refine k_cat rfl rfl (by simp only [List.length_append, List.length_singleton]; omega) ?_
            | refine k_skip rfl ?_
            | refine k_skipU rfl ?_
            | refine k_want rfl ?_
            | refine k_mv rfl ?_
            | refine k_pickT rfl rfl ?_
            | refine k_pickF rfl rfl ?_
            | refine k_notT rfl ?_
            | refine k_notF rfl ?_
            | refine k_add rfl rfl (by omega) ?_
            | refine k_sub rfl rfl (by omega) ?_
            | refine k_mul rfl rfl (by omega) ?_
            | refine k_neg rfl (by omega) ?_
            | refine k_quo rfl rfl (by omega) ?_
            | refine k_rem rfl rfl (by omega) ?_
            | refine k_conv rfl (by omega) ?_
            | refine k_max rfl rfl ?_
            | refine k_min rfl rfl ?_
            | refine k_lssT rfl rfl (by omega) ?_
            | refine k_lssF rfl rfl (by omega) ?_
            | refine k_lss rfl rfl (fun hc => ?_) (fun hc => ?_)
            | refine k_leqT rfl rfl (by omega) ?_
            | refine k_leqF rfl rfl (by omega) ?_
            | refine k_leq rfl rfl (fun hc => ?_) (fun hc => ?_)
            | refine k_gtrT rfl rfl (by omega) ?_
            | refine k_gtrF rfl rfl (by omega) ?_
            | refine k_gtr rfl rfl (fun hc => ?_) (fun hc => ?_)
            | refine k_geqT rfl rfl (by omega) ?_
            | refine k_geqF rfl rfl (by omega) ?_
            | refine k_geq rfl rfl (fun hc => ?_) (fun hc => ?_)
            | refine k_eqlT rfl rfl (by omega) ?_
            | refine k_eqlF rfl rfl (by omega) ?_
            | refine k_eql rfl rfl (fun hc => ?_) (fun hc => ?_)
            | refine k_neqT rfl rfl (by omega) ?_
            | refine k_neqF rfl rfl (by omega) ?_
            | refine k_neq rfl rfl (fun hc => ?_) (fun hc => ?_)
            | refine k_len rfl rfl ?_
            | refine k_ok rfl rfl ?_))
        exact w_roundN ⟨0 + 1, by omega, rfl, by rw [e1]; rfl⟩ (by simp [cnt, Env.get]; omega)
      · have e1 : wordS (xs.take (i + 1)) = wordS (xs.take i) ++ [32] ++ [88] ++ Lib.itoa (-x) := by
          rw [en, wordS_snoc x (fun e => by have := congrArg List.length e; rw [List.length_take, List.length_nil] at this; omega), hlT]; simp
        repeat' (first
          | refine w_seq ?_
          | refine w_seqN ?_
          | refine w_seqX ?_
          | refine w_seqR ?_
          | refine w_blk ?_
          | refine w_blkN ?_
          | refine w_blkX ?_
          | refine w_blkR ?_
          | refine w_skip ?_
          | refine w_ret ?_
          | refine w_exit ?_
          | refine w_ops ?_
          | refine w_opsD ?_
          | refine d_one ?_
          | refine d_nil ?_
          | ((refine i_cond ?_); first | refine w_condT rfl ?_ | refine w_condF rfl ?_)
          | ((refine i_nil ?_); first | refine d_same ?_ | refine d_ord ?_ | refine d_ext ⟨_, rfl⟩ ?_ | refine d_ext (extA _ _ _) ?_ | refine d_ext (by assumption) ?_ | refine w_end0 ?_ | refine w_end1 rfl ?_ | refine w_end2 rfl rfl ?_ | refine w_end3 rfl rfl rfl ?_ | refine w_end4 rfl rfl rfl rfl ?_ | refine w_end5 rfl rfl rfl rfl rfl ?_ | refine w_end6 rfl rfl rfl rfl rfl rfl ?_ | refine w_end7 rfl rfl rfl rfl rfl rfl rfl ?_ | refine w_end8 rfl rfl rfl rfl rfl rfl rfl rfl ?_ | refine w_end9 rfl rfl rfl rfl rfl rfl rfl rfl rfl ?_ | refine w_end10 rfl rfl rfl rfl rfl rfl rfl rfl rfl rfl ?_ | refine w_end11 rfl rfl rfl rfl rfl rfl rfl rfl rfl rfl rfl ?_ | refine w_end12 rfl rfl rfl rfl rfl rfl rfl rfl rfl rfl rfl rfl ?_ | refine w_end13 rfl rfl rfl rfl rfl rfl rfl rfl rfl rfl rfl rfl rfl ?_ | refine w_end14 rfl rfl rfl rfl rfl rfl rfl rfl rfl rfl rfl rfl rfl rfl ?_ | refine w_end15 rfl rfl rfl rfl rfl rfl rfl rfl rfl rfl rfl rfl rfl rfl rfl ?_ | refine w_end16 rfl rfl rfl rfl rfl rfl rfl rfl rfl rfl rfl rfl rfl rfl rfl rfl ?_)
          | ((refine i_cons ?_); first
            | refine k_len rfl hln ?_
            | refine k_idxA rfl rfl (by omega) ?_
            | refine k_ld rfl hrd ?_
            | (refine k_call rfl (dec43 _ (-x) (by omega)) ?_; rintro v h1 ⟨rfl, rfl⟩)
            | refine k_cat rfl rfl (by simp only [List.length_append, List.length_singleton]; omega) ?_
            | refine k_skip rfl ?_
            | refine k_skipU rfl ?_
            | refine k_want rfl ?_
            | refine k_mv rfl ?_
            | refine k_pickT rfl rfl ?_
            | refine k_pickF rfl rfl ?_
            | refine k_notT rfl ?_
            | refine k_notF rfl ?_
            | refine k_add rfl rfl (by omega) ?_
            | refine k_sub rfl rfl (by omega) ?_
            | refine k_mul rfl rfl (by omega) ?_
            | refine k_neg rfl (by omega) ?_
            | refine k_quo rfl rfl (by omega) ?_
            | refine k_rem rfl rfl (by omega) ?_
            | refine k_conv rfl (by omega) ?_
            | refine k_max rfl rfl ?_
            | refine k_min rfl rfl ?_
            | refine k_lssT rfl rfl (by omega) ?_
            | refine k_lssF rfl rfl (by omega) ?_
            | refine k_lss rfl rfl (fun hc => ?_) (fun hc => ?_)
            | refine k_leqT rfl rfl (by omega) ?_
            | refine k_leqF rfl rfl (by omega) ?_
            | refine k_leq rfl rfl (fun hc => ?_) (fun hc => ?_)
            | refine k_gtrT rfl rfl (by omega) ?_
            | refine k_gtrF rfl rfl (by omega) ?_
            | refine k_gtr rfl rfl (fun hc => ?_) (fun hc => ?_)
            | refine k_geqT rfl rfl (by omega) ?_
            | refine k_geqF rfl rfl (by omega) ?_
            | refine k_geq rfl rfl (fun hc => ?_) (fun hc => ?_)
            | refine k_eqlT rfl rfl (by omega) ?_
            | refine k_eqlF rfl rfl (by omega) ?_
            | refine k_eql rfl rfl (fun hc => ?_) (fun hc => ?_)
            | refine k_neqT rfl rfl (by omega) ?_
            | refine k_neqF rfl rfl (by omega) ?_
            | refine k_neq rfl rfl (fun hc => ?_) (fun hc => ?_)
            | refine k_len rfl rfl ?_
            | refine k_ok rfl rfl ?_))
        exact w_roundN ⟨i + 1, by omega, rfl, by rw [e1]; rfl⟩ (by simp [cnt, Env.get]; omega)
    · have hil := Lib.itoa_length_le x (by omega) (by omega)
      have hlT := letT_pos hneg
      by_cases h0' : i = 0
      · subst h0'
        have e1 : wordS (xs.take (0 + 1)) = wordS (xs.take 0) ++ [120] ++ Lib.itoa x := by rw [en, List.append_assoc, ← hlT]; simp [wordS, joinS]
        repeat' (first
          | refine w_seq ?_
          | refine w_seqN ?_
          | refine w_seqX ?_
          | refine w_seqR ?_
          | refine w_blk ?_
          | refine w_blkN ?_
          | refine w_blkX ?_
          | refine w_blkR ?_
          | refine w_skip ?_
          | refine w_ret ?_
          | refine w_exit ?_
          | refine w_ops ?_
          | refine w_opsD ?_
          | refine d_one ?_
          | refine d_nil ?_
          | ((refine i_cond ?_); first | refine w_condT rfl ?_ | refine w_condF rfl ?_)
          | ((refine i_nil ?_); first | refine d_same ?_ | refine d_ord ?_ | refine d_ext ⟨_, rfl⟩ ?_ | refine d_ext (extA _ _ _) ?_ | refine d_ext (by assumption) ?_ | refine w_end0 ?_ | refine w_end1 rfl ?_ | refine w_end2 rfl rfl ?_ | refine w_end3 rfl rfl rfl ?_ | refine w_end4 rfl rfl rfl rfl ?_ | refine w_end5 rfl rfl rfl rfl rfl ?_ | refine w_end6 rfl rfl rfl rfl rfl rfl ?_ | refine w_end7 rfl rfl rfl rfl rfl rfl rfl ?_ | refine w_end8 rfl rfl rfl rfl rfl rfl rfl rfl ?_ | refine w_end9 rfl rfl rfl rfl rfl rfl rfl rfl rfl ?_ | refine w_end10 rfl rfl rfl rfl rfl rfl rfl rfl rfl rfl ?_ | refine w_end11 rfl rfl rfl rfl rfl rfl rfl rfl rfl rfl rfl ?_ | refine w_end12 rfl rfl rfl rfl rfl rfl rfl rfl rfl rfl rfl rfl ?_ | refine w_end13 rfl rfl rfl rfl rfl rfl rfl rfl rfl rfl rfl rfl rfl ?_ | refine w_end14 rfl rfl rfl rfl rfl rfl rfl rfl rfl rfl rfl rfl rfl rfl ?_ | refine w_end15 rfl rfl rfl rfl rfl rfl rfl rfl rfl rfl rfl rfl rfl rfl rfl ?_ | refine w_end16 rfl rfl rfl rfl rfl rfl rfl rfl rfl rfl rfl rfl rfl rfl rfl rfl ?_)
          | ((refine i_cons ?_); first
            | refine k_len rfl hln ?_
            | refine k_idxA rfl rfl (by omega) ?_
            | refine k_ld rfl hrd ?_
            | (refine k_call rfl (dec43 _ x (by omega)) ?_; rintro v h1 ⟨rfl, rfl⟩)
            | refine k_cat rfl rfl (by simp only [List.length_append, List.length_singleton]; omega) ?_
            | refine k_skip rfl ?_
            | refine k_skipU rfl ?_
            | refine k_want rfl ?_
            | refine k_mv rfl ?_
            | refine k_pickT rfl rfl ?_
            | refine k_pickF rfl rfl ?_
            | refine k_notT rfl ?_
            | refine k_notF rfl ?_
            | refine k_add rfl rfl (by omega) ?_
            | refine k_sub rfl rfl (by omega) ?_
            | refine k_mul rfl rfl (by omega) ?_
            | refine k_neg rfl (by omega) ?_
            | refine k_quo rfl rfl (by omega) ?_
            | refine k_rem rfl rfl (by omega) ?_
            | refine k_conv rfl (by omega) ?_
            | refine k_max rfl rfl ?_
            | refine k_min rfl rfl ?_
            | refine k_lssT rfl rfl (by omega) ?_
            | refine k_lssF rfl rfl (by omega) ?_
            | refine k_lss rfl rfl (fun hc => ?_) (fun hc => ?_)
            | refine k_leqT rfl rfl (by omega) ?_
            | refine k_leqF rfl rfl (by omega) ?_
            | refine k_leq rfl rfl (fun hc => ?_) (fun hc => ?_)
            | refine k_gtrT rfl rfl (by omega) ?_
            | refine k_gtrF rfl rfl (by omega) ?_
            | refine k_gtr rfl rfl (fun hc => ?_) (fun hc => ?_)
            | refine k_geqT rfl rfl (by omega) ?_
            | refine k_geqF rfl rfl (by omega) ?_
            | refine k_geq rfl rfl (fun hc => ?_) (fun hc => ?_)
            | refine k_eqlT rfl rfl (by omega) ?_
            | refine k_eqlF rfl rfl (by omega) ?_
            | refine k_eql rfl rfl (fun hc => ?_) (fun hc => ?_)
            | refine k_neqT rfl rfl (by omega) ?_
            | refine k_neqF rfl rfl (by omega) ?_
            | refine k_neq rfl rfl (fun hc => ?_) (fun hc => ?_)
            | refine k_len rfl rfl ?_
            | refine k_ok rfl rfl ?_))
        exact w_roundN ⟨0 + 1, by omega, rfl, by rw [e1]; rfl⟩ (by simp [cnt, Env.get]; omega)
      · have e1 : wordS (xs.take (i + 1)) = wordS (xs.take i) ++ [32] ++ [120] ++ Lib.itoa x := by
          rw [en, wordS_snoc x (fun e => by have := congrArg List.length e; rw [List.length_take, List.length_nil] at this; omega), hlT]; simp
        repeat' (first
          | refine w_seq ?_
          | refine w_seqN ?_
          | refine w_seqX ?_
          | refine w_seqR ?_
          | refine w_blk ?_
          | refine w_blkN ?_
          | refine w_blkX ?_
          | refine w_blkR ?_
          | refine w_skip ?_
          | refine w_ret ?_
          | refine w_exit ?_
          | refine w_ops ?_
          | refine w_opsD ?_
          | refine d_one ?_
          | refine d_nil ?_
          | ((refine i_cond ?_); first | refine w_condT rfl ?_ | refine w_condF rfl ?_)
          | ((refine i_nil ?_); first | refine d_same ?_ | refine d_ord ?_ | refine d_ext ⟨_, rfl⟩ ?_ | refine d_ext (extA _ _ _) ?_ | refine d_ext (by assumption) ?_ | refine w_end0 ?_ | refine w_end1 rfl ?_ | refine w_end2 rfl rfl ?_ | refine w_end3 rfl rfl rfl ?_ | refine w_end4 rfl rfl rfl rfl ?_ | refine w_end5 rfl rfl rfl rfl rfl ?_ | refine w_end6 rfl rfl rfl rfl rfl rfl ?_ | refine w_end7 rfl rfl rfl rfl rfl rfl rfl ?_ | refine w_end8 rfl rfl rfl rfl rfl rfl rfl rfl ?_ | refine w_end9 rfl rfl rfl rfl rfl rfl rfl rfl rfl ?_ | refine w_end10 rfl rfl rfl rfl rfl rfl rfl rfl rfl rfl ?_ | refine w_end11 rfl rfl rfl rfl rfl rfl rfl rfl rfl rfl rfl ?_ | refine w_end12 rfl rfl rfl rfl rfl rfl rfl rfl rfl rfl rfl rfl ?_ | refine w_end13 rfl rfl rfl rfl rfl rfl rfl rfl rfl rfl rfl rfl rfl ?_ | refine w_end14 rfl rfl rfl rfl rfl rfl rfl rfl rfl rfl rfl rfl rfl rfl ?_ | refine w_end15 rfl rfl rfl rfl rfl rfl rfl rfl rfl rfl rfl rfl rfl rfl rfl ?_ | refine w_end16 rfl rfl rfl rfl rfl rfl rfl rfl rfl rfl rfl rfl rfl rfl rfl rfl ?_)
          | ((refine i_cons ?_); first
            | refine k_len rfl hln ?_
            | refine k_idxA rfl rfl (by omega) ?_
            | refine k_ld rfl hrd ?_
            | (refine k_call rfl (dec43 _ x (by omega)) ?_; rintro v h1 ⟨rfl, rfl⟩)
            | refine k_cat rfl rfl (by simp only [List.length_append, List.length_singleton]; omega) ?_
            | refine k_skip rfl ?_
            | refine k_skipU rfl ?_
            | refine k_want rfl ?_
            | refine k_mv rfl ?_
            | refine k_pickT rfl rfl ?_
            | refine k_pickF rfl rfl ?_
            | refine k_notT rfl ?_
            | refine k_notF rfl ?_
            | refine k_add rfl rfl (by omega) ?_
            | refine k_sub rfl rfl (by omega) ?_
            | refine k_mul rfl rfl (by omega) ?_
            | refine k_neg rfl (by omega) ?_
            | refine k_quo rfl rfl (by omega) ?_
            | refine k_rem rfl rfl (by omega) ?_
            | refine k_conv rfl (by omega) ?_
            | refine k_max rfl rfl ?_
            | refine k_min rfl rfl ?_
            | refine k_lssT rfl rfl (by omega) ?_
            | refine k_lssF rfl rfl (by omega) ?_
            | refine k_lss rfl rfl (fun hc => ?_) (fun hc => ?_)
            | refine k_leqT rfl rfl (by omega) ?_
            | refine k_leqF rfl rfl (by omega) ?_
            | refine k_leq rfl rfl (fun hc => ?_) (fun hc => ?_)
            | refine k_gtrT rfl rfl (by omega) ?_
            | refine k_gtrF rfl rfl (by omega) ?_
            | refine k_gtr rfl rfl (fun hc => ?_) (fun hc => ?_)
            | refine k_geqT rfl rfl (by omega) ?_
            | refine k_geqF rfl rfl (by omega) ?_
            | refine k_geq rfl rfl (fun hc => ?_) (fun hc => ?_)
            | refine k_eqlT rfl rfl (by omega) ?_
            | refine k_eqlF rfl rfl (by omega) ?_
            | refine k_eql rfl rfl (fun hc => ?_) (fun hc => ?_)
            | refine k_neqT rfl rfl (by omega) ?_
            | refine k_neqF rfl rfl (by omega) ?_
            | refine k_neq rfl rfl (fun hc => ?_) (fun hc => ?_)
            | refine k_len rfl rfl ?_
            | refine k_ok rfl rfl ?_))
        exact w_roundN ⟨i + 1, by omega, rfl, by rw [e1]; rfl⟩ (by simp [cnt, Env.get]; omega)
  · repeat' (first
   | refine w_seq ?_
   | refine w_seqN ?_
   | refine w_seqX ?_
   | refine w_seqR ?_
   | refine w_blk ?_
   | refine w_blkN ?_
   | refine w_blkX ?_
   | refine w_blkR ?_
   | refine w_skip ?_
   | refine w_ret ?_
   | refine w_exit ?_
   | refine w_ops ?_
   | refine w_opsD ?_
   | refine d_one ?_
   | refine d_nil ?_
   | ((refine i_cond ?_); first | refine w_condT rfl ?_ | refine w_condF rfl ?_)
   | ((refine i_nil ?_); first | refine d_same ?_ | refine d_ord ?_ | refine d_ext ⟨_, rfl⟩ ?_ | refine d_ext (extA _ _ _) ?_ | refine d_ext (by assumption) ?_ | refine w_end0 ?_ | refine w_end1 rfl ?_ | refine w_end2 rfl rfl ?_ | refine w_end3 rfl rfl rfl ?_ | refine w_end4 rfl rfl rfl rfl ?_ | refine w_end5 rfl rfl rfl rfl rfl ?_ | refine w_end6 rfl rfl rfl rfl rfl rfl ?_ | refine w_end7 rfl rfl rfl rfl rfl rfl rfl ?_ | refine w_end8 rfl rfl rfl rfl rfl rfl rfl rfl ?_ | refine w_end9 rfl rfl rfl rfl rfl rfl rfl rfl rfl ?_ | refine w_end10 rfl rfl rfl rfl rfl rfl rfl rfl rfl rfl ?_ | refine w_end11 rfl rfl rfl rfl rfl rfl rfl rfl rfl rfl rfl ?_ | refine w_end12 rfl rfl rfl rfl rfl rfl rfl rfl rfl rfl rfl rfl ?_ | refine w_end13 rfl rfl rfl rfl rfl rfl rfl rfl rfl rfl rfl rfl rfl ?_ | refine w_end14 rfl rfl rfl rfl rfl rfl rfl rfl rfl rfl rfl rfl rfl rfl ?_ | refine w_end15 rfl rfl rfl rfl rfl rfl rfl rfl rfl rfl rfl rfl rfl rfl rfl ?_ | refine w_end16 rfl rfl rfl rfl rfl rfl rfl rfl rfl rfl rfl rfl rfl rfl rfl rfl ?_)
   | ((refine i_cons ?_); first
     | refine k_len rfl hln ?_
     | refine k_skip rfl ?_
     | refine k_skipU rfl ?_
     | refine k_want rfl ?_
     | refine k_mv rfl ?_
     | refine k_pickT rfl rfl ?_
     | refine k_pickF rfl rfl ?_
     | refine k_notT rfl ?_
     | refine k_notF rfl ?_
     | refine k_add rfl rfl (by omega) ?_
     | refine k_sub rfl rfl (by omega) ?_
     | refine k_mul rfl rfl (by omega) ?_
     | refine k_neg rfl (by omega) ?_
     | refine k_quo rfl rfl (by omega) ?_
     | refine k_rem rfl rfl (by omega) ?_
     | refine k_conv rfl (by omega) ?_
     | refine k_max rfl rfl ?_
     | refine k_min rfl rfl ?_
     | refine k_lssT rfl rfl (by omega) ?_
     | refine k_lssF rfl rfl (by omega) ?_
     | refine k_lss rfl rfl (fun hc => ?_) (fun hc => ?_)
     | refine k_leqT rfl rfl (by omega) ?_
     | refine k_leqF rfl rfl (by omega) ?_
     | refine k_leq rfl rfl (fun hc => ?_) (fun hc => ?_)
     | refine k_gtrT rfl rfl (by omega) ?_
     | refine k_gtrF rfl rfl (by omega) ?_
     | refine k_gtr rfl rfl (fun hc => ?_) (fun hc => ?_)
     | refine k_geqT rfl rfl (by omega) ?_
     | refine k_geqF rfl rfl (by omega) ?_
     | refine k_geq rfl rfl (fun hc => ?_) (fun hc => ?_)
     | refine k_eqlT rfl rfl (by omega) ?_
     | refine k_eqlF rfl rfl (by omega) ?_
     | refine k_eql rfl rfl (fun hc => ?_) (fun hc => ?_)
     | refine k_neqT rfl rfl (by omega) ?_
     | refine k_neqF rfl rfl (by omega) ?_
     | refine k_neq rfl rfl (fun hc => ?_) (fun hc => ?_)
     | refine k_len rfl rfl ?_
     | refine k_ok rfl rfl ?_))
    exact w_roundX ⟨rfl, rfl, _, _, _, by rw [List.take_of_length_le (by omega)]⟩
theorem call31 (h0 : Heap) (s : SV) (xs : List Int) (hs : IsInts h0 s xs) (hx1 : ∀ x ∈ xs, Ltr x) (hl : xs.length ≤ 10000) :
    ∃ v h', Cal FT HKt 31 [.sc s] h0 v h' ∧ h' = h0 ∧ v = .sc (tb (wordT xs)) := by
  refine Cal.of (F := a31) rfl rfl rfl ?_
  have hln := IsSl.len hs
  unfold wordT
  by_cases hn : xs = []
  · subst hn
    have hl0 : lenS false s = some (0 : Int) := hln
    rw [if_pos rfl]
    repeat' (first
      | refine w_seq ?_
      | refine w_seqN ?_
      | refine w_seqX ?_
      | refine w_seqR ?_
      | refine w_blk ?_
      | refine w_blkN ?_
      | refine w_blkX ?_
      | refine w_blkR ?_
      | refine w_skip ?_
      | refine w_ret ?_
      | refine w_exit ?_
      | refine w_ops ?_
      | refine w_opsD ?_
      | refine d_one ?_
      | refine d_nil ?_
      | ((refine i_cond ?_); first | refine w_condT rfl ?_ | refine w_condF rfl ?_)
      | ((refine i_nil ?_); first | refine d_same ?_ | refine d_ord ?_ | refine d_ext ⟨_, rfl⟩ ?_ | refine d_ext (extA _ _ _) ?_ | refine d_ext (by assumption) ?_ | refine w_end0 ?_ | refine w_end1 rfl ?_ | refine w_end2 rfl rfl ?_ | refine w_end3 rfl rfl rfl ?_ | refine w_end4 rfl rfl rfl rfl ?_ | refine w_end5 rfl rfl rfl rfl rfl ?_ | refine w_end6 rfl rfl rfl rfl rfl rfl ?_ | refine w_end7 rfl rfl rfl rfl rfl rfl rfl ?_ | refine w_end8 rfl rfl rfl rfl rfl rfl rfl rfl ?_ | refine w_end9 rfl rfl rfl rfl rfl rfl rfl rfl rfl ?_ | refine w_end10 rfl rfl rfl rfl rfl rfl rfl rfl rfl rfl ?_ | refine w_end11 rfl rfl rfl rfl rfl rfl rfl rfl rfl rfl rfl ?_ | refine w_end12 rfl rfl rfl rfl rfl rfl rfl rfl rfl rfl rfl rfl ?_ | refine w_end13 rfl rfl rfl rfl rfl rfl rfl rfl rfl rfl rfl rfl rfl ?_ | refine w_end14 rfl rfl rfl rfl rfl rfl rfl rfl rfl rfl rfl rfl rfl rfl ?_ | refine w_end15 rfl rfl rfl rfl rfl rfl rfl rfl rfl rfl rfl rfl rfl rfl rfl ?_ | refine w_end16 rfl rfl rfl rfl rfl rfl rfl rfl rfl rfl rfl rfl rfl rfl rfl rfl ?_)
      | ((refine i_cons ?_); first
        | refine k_len rfl hl0 ?_
        | refine k_skip rfl ?_
        | refine k_skipU rfl ?_
        | refine k_want rfl ?_
        | refine k_mv rfl ?_
        | refine k_pickT rfl rfl ?_
        | refine k_pickF rfl rfl ?_
        | refine k_notT rfl ?_
        | refine k_notF rfl ?_
        | refine k_add rfl rfl (by omega) ?_
        | refine k_sub rfl rfl (by omega) ?_
        | refine k_mul rfl rfl (by omega) ?_
        | refine k_neg rfl (by omega) ?_
        | refine k_quo rfl rfl (by omega) ?_
        | refine k_rem rfl rfl (by omega) ?_
        | refine k_conv rfl (by omega) ?_
        | refine k_max rfl rfl ?_
        | refine k_min rfl rfl ?_
        | refine k_lssT rfl rfl (by omega) ?_
        | refine k_lssF rfl rfl (by omega) ?_
        | refine k_lss rfl rfl (fun hc => ?_) (fun hc => ?_)
        | refine k_leqT rfl rfl (by omega) ?_
        | refine k_leqF rfl rfl (by omega) ?_
        | refine k_leq rfl rfl (fun hc => ?_) (fun hc => ?_)
        | refine k_gtrT rfl rfl (by omega) ?_
        | refine k_gtrF rfl rfl (by omega) ?_
        | refine k_gtr rfl rfl (fun hc => ?_) (fun hc => ?_)
        | refine k_geqT rfl rfl (by omega) ?_
        | refine k_geqF rfl rfl (by omega) ?_
        | refine k_geq rfl rfl (fun hc => ?_) (fun hc => ?_)
        | refine k_eqlT rfl rfl (by omega) ?_
        | refine k_eqlF rfl rfl (by omega) ?_
        | refine k_eql rfl rfl (fun hc => ?_) (fun hc => ?_)
        | refine k_neqT rfl rfl (by omega) ?_
        | refine k_neqF rfl rfl (by omega) ?_
        | refine k_neq rfl rfl (fun hc => ?_) (fun hc => ?_)
        | refine k_len rfl rfl ?_
        | refine k_ok rfl rfl ?_))
    exact ⟨.inr rfl, rfl, rfl⟩
  · have hpos : 0 < xs.length := List.length_pos_iff.2 hn
    rw [if_neg hn]
    repeat' (first
      | refine w_seq ?_
      | refine w_seqN ?_
      | refine w_seqX ?_
      | refine w_seqR ?_
      | refine w_blk ?_
      | refine w_blkN ?_
      | refine w_blkX ?_
      | refine w_blkR ?_
      | refine w_skip ?_
      | refine w_ret ?_
      | refine w_exit ?_
      | refine w_ops ?_
      | refine w_opsD ?_
      | refine d_one ?_
      | refine d_nil ?_
      | ((refine i_cond ?_); first | refine w_condT rfl ?_ | refine w_condF rfl ?_)
      | ((refine i_nil ?_); first | refine d_same ?_ | refine d_ord ?_ | refine d_ext ⟨_, rfl⟩ ?_ | refine d_ext (extA _ _ _) ?_ | refine d_ext (by assumption) ?_ | refine w_end0 ?_ | refine w_end1 rfl ?_ | refine w_end2 rfl rfl ?_ | refine w_end3 rfl rfl rfl ?_ | refine w_end4 rfl rfl rfl rfl ?_ | refine w_end5 rfl rfl rfl rfl rfl ?_ | refine w_end6 rfl rfl rfl rfl rfl rfl ?_ | refine w_end7 rfl rfl rfl rfl rfl rfl rfl ?_ | refine w_end8 rfl rfl rfl rfl rfl rfl rfl rfl ?_ | refine w_end9 rfl rfl rfl rfl rfl rfl rfl rfl rfl ?_ | refine w_end10 rfl rfl rfl rfl rfl rfl rfl rfl rfl rfl ?_ | refine w_end11 rfl rfl rfl rfl rfl rfl rfl rfl rfl rfl rfl ?_ | refine w_end12 rfl rfl rfl rfl rfl rfl rfl rfl rfl rfl rfl rfl ?_ | refine w_end13 rfl rfl rfl rfl rfl rfl rfl rfl rfl rfl rfl rfl rfl ?_ | refine w_end14 rfl rfl rfl rfl rfl rfl rfl rfl rfl rfl rfl rfl rfl rfl ?_ | refine w_end15 rfl rfl rfl rfl rfl rfl rfl rfl rfl rfl rfl rfl rfl rfl rfl ?_ | refine w_end16 rfl rfl rfl rfl rfl rfl rfl rfl rfl rfl rfl rfl rfl rfl rfl rfl ?_)
      | ((refine i_cons ?_); first
        | refine k_len rfl hln ?_
        | refine k_skip rfl ?_
        | refine k_skipU rfl ?_
        | refine k_want rfl ?_
        | refine k_mv rfl ?_
        | refine k_pickT rfl rfl ?_
        | refine k_pickF rfl rfl ?_
        | refine k_notT rfl ?_
        | refine k_notF rfl ?_
        | refine k_add rfl rfl (by omega) ?_
        | refine k_sub rfl rfl (by omega) ?_
        | refine k_mul rfl rfl (by omega) ?_
        | refine k_neg rfl (by omega) ?_
        | refine k_quo rfl rfl (by omega) ?_
        | refine k_rem rfl rfl (by omega) ?_
        | refine k_conv rfl (by omega) ?_
        | refine k_max rfl rfl ?_
        | refine k_min rfl rfl ?_
        | refine k_lssT rfl rfl (by omega) ?_
        | refine k_lssF rfl rfl (by omega) ?_
        | refine k_lss rfl rfl (fun hc => ?_) (fun hc => ?_)
        | refine k_leqT rfl rfl (by omega) ?_
        | refine k_leqF rfl rfl (by omega) ?_
        | refine k_leq rfl rfl (fun hc => ?_) (fun hc => ?_)
        | refine k_gtrT rfl rfl (by omega) ?_
        | refine k_gtrF rfl rfl (by omega) ?_
        | refine k_gtr rfl rfl (fun hc => ?_) (fun hc => ?_)
        | refine k_geqT rfl rfl (by omega) ?_
        | refine k_geqF rfl rfl (by omega) ?_
        | refine k_geq rfl rfl (fun hc => ?_) (fun hc => ?_)
        | refine k_eqlT rfl rfl (by omega) ?_
        | refine k_eqlF rfl rfl (by omega) ?_
        | refine k_eql rfl rfl (fun hc => ?_) (fun hc => ?_)
        | refine k_neqT rfl rfl (by omega) ?_
        | refine k_neqF rfl rfl (by omega) ?_
        | refine k_neq rfl rfl (fun hc => ?_) (fun hc => ?_)
        | refine k_len rfl rfl ?_
        | refine k_ok rfl rfl ?_))
    refine w_loop (I31 h0 s xs) (cnt xs.length 4) (R31 h0 xs) ⟨0, Nat.zero_le _, rfl, rfl⟩ (round31 h0 s xs hs hx1 hl) ?_
    rintro ex E' h' ⟨rfl, rfl, a, b, d, rfl⟩
    repeat' (first
      | refine w_seq ?_
      | refine w_seqN ?_
      | refine w_seqX ?_
      | refine w_seqR ?_
      | refine w_blk ?_
      | refine w_blkN ?_
      | refine w_blkX ?_
      | refine w_blkR ?_
      | refine w_skip ?_
      | refine w_ret ?_
      | refine w_exit ?_
      | refine w_ops ?_
      | refine w_opsD ?_
      | refine d_one ?_
      | refine d_nil ?_
      | ((refine i_cond ?_); first | refine w_condT rfl ?_ | refine w_condF rfl ?_)
      | ((refine i_nil ?_); first | refine d_same ?_ | refine d_ord ?_ | refine d_ext ⟨_, rfl⟩ ?_ | refine d_ext (extA _ _ _) ?_ | refine d_ext (by assumption) ?_ | refine w_end0 ?_ | refine w_end1 rfl ?_ | refine w_end2 rfl rfl ?_ | refine w_end3 rfl rfl rfl ?_ | refine w_end4 rfl rfl rfl rfl ?_ | refine w_end5 rfl rfl rfl rfl rfl ?_ | refine w_end6 rfl rfl rfl rfl rfl rfl ?_ | refine w_end7 rfl rfl rfl rfl rfl rfl rfl ?_ | refine w_end8 rfl rfl rfl rfl rfl rfl rfl rfl ?_ | refine w_end9 rfl rfl rfl rfl rfl rfl rfl rfl rfl ?_ | refine w_end10 rfl rfl rfl rfl rfl rfl rfl rfl rfl rfl ?_ | refine w_end11 rfl rfl rfl rfl rfl rfl rfl rfl rfl rfl rfl ?_ | refine w_end12 rfl rfl rfl rfl rfl rfl rfl rfl rfl rfl rfl rfl ?_ | refine w_end13 rfl rfl rfl rfl rfl rfl rfl rfl rfl rfl rfl rfl rfl ?_ | refine w_end14 rfl rfl rfl rfl rfl rfl rfl rfl rfl rfl rfl rfl rfl rfl ?_ | refine w_end15 rfl rfl rfl rfl rfl rfl rfl rfl rfl rfl rfl rfl rfl rfl rfl ?_ | refine w_end16 rfl rfl rfl rfl rfl rfl rfl rfl rfl rfl rfl rfl rfl rfl rfl rfl ?_)
      | ((refine i_cons ?_); first
        | refine k_skip rfl ?_
        | refine k_skipU rfl ?_
        | refine k_want rfl ?_
        | refine k_mv rfl ?_
        | refine k_pickT rfl rfl ?_
        | refine k_pickF rfl rfl ?_
        | refine k_notT rfl ?_
        | refine k_notF rfl ?_
        | refine k_add rfl rfl (by omega) ?_
        | refine k_sub rfl rfl (by omega) ?_
        | refine k_mul rfl rfl (by omega) ?_
        | refine k_neg rfl (by omega) ?_
        | refine k_quo rfl rfl (by omega) ?_
        | refine k_rem rfl rfl (by omega) ?_
        | refine k_conv rfl (by omega) ?_
        | refine k_max rfl rfl ?_
        | refine k_min rfl rfl ?_
        | refine k_lssT rfl rfl (by omega) ?_
        | refine k_lssF rfl rfl (by omega) ?_
        | refine k_lss rfl rfl (fun hc => ?_) (fun hc => ?_)
        | refine k_leqT rfl rfl (by omega) ?_
        | refine k_leqF rfl rfl (by omega) ?_
        | refine k_leq rfl rfl (fun hc => ?_) (fun hc => ?_)
        | refine k_gtrT rfl rfl (by omega) ?_
        | refine k_gtrF rfl rfl (by omega) ?_
        | refine k_gtr rfl rfl (fun hc => ?_) (fun hc => ?_)
        | refine k_geqT rfl rfl (by omega) ?_
        | refine k_geqF rfl rfl (by omega) ?_
        | refine k_geq rfl rfl (fun hc => ?_) (fun hc => ?_)
        | refine k_eqlT rfl rfl (by omega) ?_
        | refine k_eqlF rfl rfl (by omega) ?_
        | refine k_eql rfl rfl (fun hc => ?_) (fun hc => ?_)
        | refine k_neqT rfl rfl (by omega) ?_
        | refine k_neqF rfl rfl (by omega) ?_
        | refine k_neq rfl rfl (fun hc => ?_) (fun hc => ?_)
        | refine k_len rfl rfl ?_
        | refine k_ok rfl rfl ?_))
    exact ⟨.inr rfl, rfl, rfl⟩

/-! ### letter -/
def letV (s : List UInt8) : AV := match letP s with
  | some v => .tup [.sc (.int .i64 v), .sc (.bool true)]
  | none => .tup [.sc (.int .i64 0), .sc (.bool false)]
def I42 (h0 h1 : Heap) (s t : List UInt8) (q : SV) (E : Env) (h : Heap) : Prop := ∃ (i n : Nat), i ≤ t.length ∧ h = h1 ∧ n ≤ 1000000 ∧ digs (t.drop i) n = digs t 0 ∧
  E = [(0, some (.sc (tb s))), (4, some (.sc (.int .i64 n))), (27, some (.sc q)), (28, some (.sc (.int .i64 t.length))), (29, some (.sc (.int .i64 i)))]
def R42 (h1 : Heap) (s t : List UInt8) (ex : Ex) (E : Env) (h : Heap) : Prop := h = h1 ∧ match ex with
  | .rt => E = [(2, some (.sc (.int .i64 0))), (3, some (.sc (.bool false)))] ∧ digs t 0 = none
  | .ex i => i = 0 ∧ ∃ (n : Nat) (a b c d : Option AV), n ≤ 1000000 ∧ digs t 0 = some n ∧ E = [(0, some (.sc (tb s))), (4, some (.sc (.int .i64 n))), (27, a), (28, b), (29, c), (30, d)]
  | .nm => False
theorem round42 (h0 h1 : Heap) (s t : List UInt8) (q : SV) (hs : IsSl h1 q 1 t.length (u8s t)) (hl : t.length ≤ 1000000) (E : Env) (h : Heap) (hI : I42 h0 h1 s t q E h) :
    wA FT HKt b42L0 (E.keep [0, 4, 27, 28, 29]) h (wRound (I42 h0 h1 s t q) (cnt t.length 29) (cnt t.length 29 E h) (R42 h1 s t)) := by
  obtain ⟨i, n, hi, rfl, hn, hd, rfl⟩ := hI
  by_cases hlt : i < t.length
  · obtain ⟨c, hx⟩ : ∃ c, t[i]? = some c := ⟨_, List.getElem?_eq_getElem hlt⟩
    have hs1 : IsSl h q 1 (u8s t).length (u8s t) := by rw [u8s_len]; exact hs
    obtain ⟨id, off, cap, rfl, hrd⟩ := IsSl.at hs1 (show (u8s t)[i]? = some (.int .u8 (c.toNat : Int)) by unfold u8s; rw [List.getElem?_map, hx]; rfl)
    rw [u8s_len] at *
    have hdr : t.drop i = c :: t.drop (i + 1) := by
      obtain ⟨h9, h10⟩ := List.getElem?_eq_some_iff.1 hx
      rw [List.drop_eq_getElem_cons h9, h10]
    rw [hdr, digs_cons] at hd
    have hcl : c.toNat < 256 := c.toNat_lt
    by_cases hg : 48 ≤ c.toNat ∧ c.toNat ≤ 57
    · rw [if_pos hg] at hd
      have ec : ((10 * n + (c.toNat - 48) : Nat) : Int) = 10 * (n : Int) + ((c.toNat : Int) - 48) := by omega
      by_cases hb : 1000000 < 10 * n + (c.toNat - 48)
      · rw [if_pos hb] at hd
        repeat' (first
          | refine w_seq ?_
          | refine w_seqN ?_
          | refine w_seqX ?_
          | refine w_seqR ?_
          | refine w_blk ?_
          | refine w_blkN ?_
          | refine w_blkX ?_
          | refine w_blkR ?_
          | refine w_skip ?_
          | refine w_ret ?_
          | refine w_exit ?_
          | refine w_ops ?_
          | refine w_opsD ?_
          | refine d_one ?_
          | refine d_nil ?_
          | ((refine i_cond ?_); first | refine w_condT rfl ?_ | refine w_condF rfl ?_)
          | ((refine i_nil ?_); first | refine d_same ?_ | refine d_ord ?_ | refine d_ext ⟨_, rfl⟩ ?_ | refine d_ext (extA _ _ _) ?_ | refine d_ext (by assumption) ?_ | refine w_end0 ?_ | refine w_end1 rfl ?_ | refine w_end2 rfl rfl ?_ | refine w_end3 rfl rfl rfl ?_ | refine w_end4 rfl rfl rfl rfl ?_ | refine w_end5 rfl rfl rfl rfl rfl ?_ | refine w_end6 rfl rfl rfl rfl rfl rfl ?_ | refine w_end7 rfl rfl rfl rfl rfl rfl rfl ?_ | refine w_end8 rfl rfl rfl rfl rfl rfl rfl rfl ?_ | refine w_end9 rfl rfl rfl rfl rfl rfl rfl rfl rfl ?_ | refine w_end10 rfl rfl rfl rfl rfl rfl rfl rfl rfl rfl ?_ | refine w_end11 rfl rfl rfl rfl rfl rfl rfl rfl rfl rfl rfl ?_ | refine w_end12 rfl rfl rfl rfl rfl rfl rfl rfl rfl rfl rfl rfl ?_ | refine w_end13 rfl rfl rfl rfl rfl rfl rfl rfl rfl rfl rfl rfl rfl ?_ | refine w_end14 rfl rfl rfl rfl rfl rfl rfl rfl rfl rfl rfl rfl rfl rfl ?_ | refine w_end15 rfl rfl rfl rfl rfl rfl rfl rfl rfl rfl rfl rfl rfl rfl rfl ?_ | refine w_end16 rfl rfl rfl rfl rfl rfl rfl rfl rfl rfl rfl rfl rfl rfl rfl rfl ?_)
          | ((refine i_cons ?_); first
            | refine k_idxA rfl rfl (by omega) ?_
            | refine k_ld rfl hrd ?_
            | refine k_sub8 rfl rfl (by omega) ?_
            | refine k_skip rfl ?_
            | refine k_skipU rfl ?_
            | refine k_want rfl ?_
            | refine k_mv rfl ?_
            | refine k_pickT rfl rfl ?_
            | refine k_pickF rfl rfl ?_
            | refine k_notT rfl ?_
            | refine k_notF rfl ?_
            | refine k_add rfl rfl (by omega) ?_
            | refine k_sub rfl rfl (by omega) ?_
            | refine k_mul rfl rfl (by omega) ?_
            | refine k_neg rfl (by omega) ?_
            | refine k_quo rfl rfl (by omega) ?_
            | refine k_rem rfl rfl (by omega) ?_
            | refine k_conv rfl (by omega) ?_
            | refine k_max rfl rfl ?_
            | refine k_min rfl rfl ?_
            | refine k_lssT rfl rfl (by omega) ?_
            | refine k_lssF rfl rfl (by omega) ?_
            | refine k_lss rfl rfl (fun hc => ?_) (fun hc => ?_)
            | refine k_leqT rfl rfl (by omega) ?_
            | refine k_leqF rfl rfl (by omega) ?_
            | refine k_leq rfl rfl (fun hc => ?_) (fun hc => ?_)
            | refine k_gtrT rfl rfl (by omega) ?_
            | refine k_gtrF rfl rfl (by omega) ?_
            | refine k_gtr rfl rfl (fun hc => ?_) (fun hc => ?_)
            | refine k_geqT rfl rfl (by omega) ?_
            | refine k_geqF rfl rfl (by omega) ?_
            | refine k_geq rfl rfl (fun hc => ?_) (fun hc => ?_)
            | refine k_eqlT rfl rfl (by omega) ?_
            | refine k_eqlF rfl rfl (by omega) ?_
            | refine k_eql rfl rfl (fun hc => ?_) (fun hc => ?_)
            | refine k_neqT rfl rfl (by omega) ?_
            | refine k_neqF rfl rfl (by omega) ?_
            | refine k_neq rfl rfl (fun hc => ?_) (fun hc => ?_)
            | refine k_len rfl rfl ?_
            | refine k_ok rfl rfl ?_))
        exact w_roundR ⟨rfl, rfl, hd.symm⟩
      · rw [if_neg hb] at hd
        repeat' (first
          | refine w_seq ?_
          | refine w_seqN ?_
          | refine w_seqX ?_
          | refine w_seqR ?_
          | refine w_blk ?_
          | refine w_blkN ?_
          | refine w_blkX ?_
          | refine w_blkR ?_
          | refine w_skip ?_
          | refine w_ret ?_
          | refine w_exit ?_
          | refine w_ops ?_
          | refine w_opsD ?_
          | refine d_one ?_
          | refine d_nil ?_
          | ((refine i_cond ?_); first | refine w_condT rfl ?_ | refine w_condF rfl ?_)
          | ((refine i_nil ?_); first | refine d_same ?_ | refine d_ord ?_ | refine d_ext ⟨_, rfl⟩ ?_ | refine d_ext (extA _ _ _) ?_ | refine d_ext (by assumption) ?_ | refine w_end0 ?_ | refine w_end1 rfl ?_ | refine w_end2 rfl rfl ?_ | refine w_end3 rfl rfl rfl ?_ | refine w_end4 rfl rfl rfl rfl ?_ | refine w_end5 rfl rfl rfl rfl rfl ?_ | refine w_end6 rfl rfl rfl rfl rfl rfl ?_ | refine w_end7 rfl rfl rfl rfl rfl rfl rfl ?_ | refine w_end8 rfl rfl rfl rfl rfl rfl rfl rfl ?_ | refine w_end9 rfl rfl rfl rfl rfl rfl rfl rfl rfl ?_ | refine w_end10 rfl rfl rfl rfl rfl rfl rfl rfl rfl rfl ?_ | refine w_end11 rfl rfl rfl rfl rfl rfl rfl rfl rfl rfl rfl ?_ | refine w_end12 rfl rfl rfl rfl rfl rfl rfl rfl rfl rfl rfl rfl ?_ | refine w_end13 rfl rfl rfl rfl rfl rfl rfl rfl rfl rfl rfl rfl rfl ?_ | refine w_end14 rfl rfl rfl rfl rfl rfl rfl rfl rfl rfl rfl rfl rfl rfl ?_ | refine w_end15 rfl rfl rfl rfl rfl rfl rfl rfl rfl rfl rfl rfl rfl rfl rfl ?_ | refine w_end16 rfl rfl rfl rfl rfl rfl rfl rfl rfl rfl rfl rfl rfl rfl rfl rfl ?_)
          | ((refine i_cons ?_); first
            | refine k_idxA rfl rfl (by omega) ?_
            | refine k_ld rfl hrd ?_
            | refine k_sub8 rfl rfl (by omega) ?_
            | refine k_skip rfl ?_
            | refine k_skipU rfl ?_
            | refine k_want rfl ?_
            | refine k_mv rfl ?_
            | refine k_pickT rfl rfl ?_
            | refine k_pickF rfl rfl ?_
            | refine k_notT rfl ?_
            | refine k_notF rfl ?_
            | refine k_add rfl rfl (by omega) ?_
            | refine k_sub rfl rfl (by omega) ?_
            | refine k_mul rfl rfl (by omega) ?_
            | refine k_neg rfl (by omega) ?_
            | refine k_quo rfl rfl (by omega) ?_
            | refine k_rem rfl rfl (by omega) ?_
            | refine k_conv rfl (by omega) ?_
            | refine k_max rfl rfl ?_
            | refine k_min rfl rfl ?_
            | refine k_lssT rfl rfl (by omega) ?_
            | refine k_lssF rfl rfl (by omega) ?_
            | refine k_lss rfl rfl (fun hc => ?_) (fun hc => ?_)
            | refine k_leqT rfl rfl (by omega) ?_
            | refine k_leqF rfl rfl (by omega) ?_
            | refine k_leq rfl rfl (fun hc => ?_) (fun hc => ?_)
            | refine k_gtrT rfl rfl (by omega) ?_
            | refine k_gtrF rfl rfl (by omega) ?_
            | refine k_gtr rfl rfl (fun hc => ?_) (fun hc => ?_)
            | refine k_geqT rfl rfl (by omega) ?_
            | refine k_geqF rfl rfl (by omega) ?_
            | refine k_geq rfl rfl (fun hc => ?_) (fun hc => ?_)
            | refine k_eqlT rfl rfl (by omega) ?_
            | refine k_eqlF rfl rfl (by omega) ?_
            | refine k_eql rfl rfl (fun hc => ?_) (fun hc => ?_)
            | refine k_neqT rfl rfl (by omega) ?_
            | refine k_neqF rfl rfl (by omega) ?_
            | refine k_neq rfl rfl (fun hc => ?_) (fun hc => ?_)
            | refine k_len rfl rfl ?_
            | refine k_ok rfl rfl ?_))
        exact w_roundN ⟨i + 1, 10 * n + (c.toNat - 48), by omega, rfl, by omega, hd, by rw [ec]; rfl⟩ (by simp [cnt, Env.get]; omega)
    · rw [if_neg hg] at hd
      by_cases hc48 : c.toNat < 48
      · repeat' (first
   | refine w_seq ?_
   | refine w_seqN ?_
   | refine w_seqX ?_
   | refine w_seqR ?_
   | refine w_blk ?_
   | refine w_blkN ?_
   | refine w_blkX ?_
   | refine w_blkR ?_
   | refine w_skip ?_
   | refine w_ret ?_
   | refine w_exit ?_
   | refine w_ops ?_
   | refine w_opsD ?_
   | refine d_one ?_
   | refine d_nil ?_
   | ((refine i_cond ?_); first | refine w_condT rfl ?_ | refine w_condF rfl ?_)
   | ((refine i_nil ?_); first | refine d_same ?_ | refine d_ord ?_ | refine d_ext ⟨_, rfl⟩ ?_ | refine d_ext (extA _ _ _) ?_ | refine d_ext (by assumption) ?_ | refine w_end0 ?_ | refine w_end1 rfl ?_ | refine w_end2 rfl rfl ?_ | refine w_end3 rfl rfl rfl ?_ | refine w_end4 rfl rfl rfl rfl ?_ | refine w_end5 rfl rfl rfl rfl rfl ?_ | refine w_end6 rfl rfl rfl rfl rfl rfl ?_ | refine w_end7 rfl rfl rfl rfl rfl rfl rfl ?_ | refine w_end8 rfl rfl rfl rfl rfl rfl rfl rfl ?_ | refine w_end9 rfl rfl rfl rfl rfl rfl rfl rfl rfl ?_ | refine w_end10 rfl rfl rfl rfl rfl rfl rfl rfl rfl rfl ?_ | refine w_end11 rfl rfl rfl rfl rfl rfl rfl rfl rfl rfl rfl ?_ | refine w_end12 rfl rfl rfl rfl rfl rfl rfl rfl rfl rfl rfl rfl ?_ | refine w_end13 rfl rfl rfl rfl rfl rfl rfl rfl rfl rfl rfl rfl rfl ?_ | refine w_end14 rfl rfl rfl rfl rfl rfl rfl rfl rfl rfl rfl rfl rfl rfl ?_ | refine w_end15 rfl rfl rfl rfl rfl rfl rfl rfl rfl rfl rfl rfl rfl rfl rfl ?_ | refine w_end16 rfl rfl rfl rfl rfl rfl rfl rfl rfl rfl rfl rfl rfl rfl rfl rfl ?_)
   | ((refine i_cons ?_); first
     | refine k_idxA rfl rfl (by omega) ?_
     | refine k_ld rfl hrd ?_
     | refine k_skip rfl ?_
     | refine k_skipU rfl ?_
     | refine k_want rfl ?_
     | refine k_mv rfl ?_
     | refine k_pickT rfl rfl ?_
     | refine k_pickF rfl rfl ?_
     | refine k_notT rfl ?_
     | refine k_notF rfl ?_
     | refine k_add rfl rfl (by omega) ?_
     | refine k_sub rfl rfl (by omega) ?_
     | refine k_mul rfl rfl (by omega) ?_
     | refine k_neg rfl (by omega) ?_
     | refine k_quo rfl rfl (by omega) ?_
     | refine k_rem rfl rfl (by omega) ?_
     | refine k_conv rfl (by omega) ?_
     | refine k_max rfl rfl ?_
     | refine k_min rfl rfl ?_
     | refine k_lssT rfl rfl (by omega) ?_
     | refine k_lssF rfl rfl (by omega) ?_
     | refine k_lss rfl rfl (fun hc => ?_) (fun hc => ?_)
     | refine k_leqT rfl rfl (by omega) ?_
     | refine k_leqF rfl rfl (by omega) ?_
     | refine k_leq rfl rfl (fun hc => ?_) (fun hc => ?_)
     | refine k_gtrT rfl rfl (by omega) ?_
     | refine k_gtrF rfl rfl (by omega) ?_
     | refine k_gtr rfl rfl (fun hc => ?_) (fun hc => ?_)
     | refine k_geqT rfl rfl (by omega) ?_
     | refine k_geqF rfl rfl (by omega) ?_
     | refine k_geq rfl rfl (fun hc => ?_) (fun hc => ?_)
     | refine k_eqlT rfl rfl (by omega) ?_
     | refine k_eqlF rfl rfl (by omega) ?_
     | refine k_eql rfl rfl (fun hc => ?_) (fun hc => ?_)
     | refine k_neqT rfl rfl (by omega) ?_
     | refine k_neqF rfl rfl (by omega) ?_
     | refine k_neq rfl rfl (fun hc => ?_) (fun hc => ?_)
     | refine k_len rfl rfl ?_
     | refine k_ok rfl rfl ?_))
        exact w_roundR ⟨rfl, rfl, hd.symm⟩
      · repeat' (first
   | refine w_seq ?_
   | refine w_seqN ?_
   | refine w_seqX ?_
   | refine w_seqR ?_
   | refine w_blk ?_
   | refine w_blkN ?_
   | refine w_blkX ?_
   | refine w_blkR ?_
   | refine w_skip ?_
   | refine w_ret ?_
   | refine w_exit ?_
   | refine w_ops ?_
   | refine w_opsD ?_
   | refine d_one ?_
   | refine d_nil ?_
   | ((refine i_cond ?_); first | refine w_condT rfl ?_ | refine w_condF rfl ?_)
   | ((refine i_nil ?_); first | refine d_same ?_ | refine d_ord ?_ | refine d_ext ⟨_, rfl⟩ ?_ | refine d_ext (extA _ _ _) ?_ | refine d_ext (by assumption) ?_ | refine w_end0 ?_ | refine w_end1 rfl ?_ | refine w_end2 rfl rfl ?_ | refine w_end3 rfl rfl rfl ?_ | refine w_end4 rfl rfl rfl rfl ?_ | refine w_end5 rfl rfl rfl rfl rfl ?_ | refine w_end6 rfl rfl rfl rfl rfl rfl ?_ | refine w_end7 rfl rfl rfl rfl rfl rfl rfl ?_ | refine w_end8 rfl rfl rfl rfl rfl rfl rfl rfl ?_ | refine w_end9 rfl rfl rfl rfl rfl rfl rfl rfl rfl ?_ | refine w_end10 rfl rfl rfl rfl rfl rfl rfl rfl rfl rfl ?_ | refine w_end11 rfl rfl rfl rfl rfl rfl rfl rfl rfl rfl rfl ?_ | refine w_end12 rfl rfl rfl rfl rfl rfl rfl rfl rfl rfl rfl rfl ?_ | refine w_end13 rfl rfl rfl rfl rfl rfl rfl rfl rfl rfl rfl rfl rfl ?_ | refine w_end14 rfl rfl rfl rfl rfl rfl rfl rfl rfl rfl rfl rfl rfl rfl ?_ | refine w_end15 rfl rfl rfl rfl rfl rfl rfl rfl rfl rfl rfl rfl rfl rfl rfl ?_ | refine w_end16 rfl rfl rfl rfl rfl rfl rfl rfl rfl rfl rfl rfl rfl rfl rfl rfl ?_)
   | ((refine i_cons ?_); first
     | refine k_idxA rfl rfl (by omega) ?_
     | refine k_ld rfl hrd ?_
     | refine k_skip rfl ?_
     | refine k_skipU rfl ?_
     | refine k_want rfl ?_
     | refine k_mv rfl ?_
     | refine k_pickT rfl rfl ?_
     | refine k_pickF rfl rfl ?_
     | refine k_notT rfl ?_
     | refine k_notF rfl ?_
     | refine k_add rfl rfl (by omega) ?_
     | refine k_sub rfl rfl (by omega) ?_
     | refine k_mul rfl rfl (by omega) ?_
     | refine k_neg rfl (by omega) ?_
     | refine k_quo rfl rfl (by omega) ?_
     | refine k_rem rfl rfl (by omega) ?_
     | refine k_conv rfl (by omega) ?_
     | refine k_max rfl rfl ?_
     | refine k_min rfl rfl ?_
     | refine k_lssT rfl rfl (by omega) ?_
     | refine k_lssF rfl rfl (by omega) ?_
     | refine k_lss rfl rfl (fun hc => ?_) (fun hc => ?_)
     | refine k_leqT rfl rfl (by omega) ?_
     | refine k_leqF rfl rfl (by omega) ?_
     | refine k_leq rfl rfl (fun hc => ?_) (fun hc => ?_)
     | refine k_gtrT rfl rfl (by omega) ?_
     | refine k_gtrF rfl rfl (by omega) ?_
     | refine k_gtr rfl rfl (fun hc => ?_) (fun hc => ?_)
     | refine k_geqT rfl rfl (by omega) ?_
     | refine k_geqF rfl rfl (by omega) ?_
     | refine k_geq rfl rfl (fun hc => ?_) (fun hc => ?_)
     | refine k_eqlT rfl rfl (by omega) ?_
     | refine k_eqlF rfl rfl (by omega) ?_
     | refine k_eql rfl rfl (fun hc => ?_) (fun hc => ?_)
     | refine k_neqT rfl rfl (by omega) ?_
     | refine k_neqF rfl rfl (by omega) ?_
     | refine k_neq rfl rfl (fun hc => ?_) (fun hc => ?_)
     | refine k_len rfl rfl ?_
     | refine k_ok rfl rfl ?_))
        exact w_roundR ⟨rfl, rfl, hd.symm⟩
  · rw [List.drop_of_length_le (by omega), digs_nil] at hd
    repeat' (first
      | refine w_seq ?_
      | refine w_seqN ?_
      | refine w_seqX ?_
      | refine w_seqR ?_
      | refine w_blk ?_
      | refine w_blkN ?_
      | refine w_blkX ?_
      | refine w_blkR ?_
      | refine w_skip ?_
      | refine w_ret ?_
      | refine w_exit ?_
      | refine w_ops ?_
      | refine w_opsD ?_
      | refine d_one ?_
      | refine d_nil ?_
      | ((refine i_cond ?_); first | refine w_condT rfl ?_ | refine w_condF rfl ?_)
      | ((refine i_nil ?_); first | refine d_same ?_ | refine d_ord ?_ | refine d_ext ⟨_, rfl⟩ ?_ | refine d_ext (extA _ _ _) ?_ | refine d_ext (by assumption) ?_ | refine w_end0 ?_ | refine w_end1 rfl ?_ | refine w_end2 rfl rfl ?_ | refine w_end3 rfl rfl rfl ?_ | refine w_end4 rfl rfl rfl rfl ?_ | refine w_end5 rfl rfl rfl rfl rfl ?_ | refine w_end6 rfl rfl rfl rfl rfl rfl ?_ | refine w_end7 rfl rfl rfl rfl rfl rfl rfl ?_ | refine w_end8 rfl rfl rfl rfl rfl rfl rfl rfl ?_ | refine w_end9 rfl rfl rfl rfl rfl rfl rfl rfl rfl ?_ | refine w_end10 rfl rfl rfl rfl rfl rfl rfl rfl rfl rfl ?_ | refine w_end11 rfl rfl rfl rfl rfl rfl rfl rfl rfl rfl rfl ?_ | refine w_end12 rfl rfl rfl rfl rfl rfl rfl rfl rfl rfl rfl rfl ?_ | refine w_end13 rfl rfl rfl rfl rfl rfl rfl rfl rfl rfl rfl rfl rfl ?_ | refine w_end14 rfl rfl rfl rfl rfl rfl rfl rfl rfl rfl rfl rfl rfl rfl ?_ | refine w_end15 rfl rfl rfl rfl rfl rfl rfl rfl rfl rfl rfl rfl rfl rfl rfl ?_ | refine w_end16 rfl rfl rfl rfl rfl rfl rfl rfl rfl rfl rfl rfl rfl rfl rfl rfl ?_)
      | ((refine i_cons ?_); first
        | refine k_skip rfl ?_
        | refine k_skipU rfl ?_
        | refine k_want rfl ?_
        | refine k_mv rfl ?_
        | refine k_pickT rfl rfl ?_
        | refine k_pickF rfl rfl ?_
        | refine k_notT rfl ?_
        | refine k_notF rfl ?_
        | refine k_add rfl rfl (by omega) ?_
        | refine k_sub rfl rfl (by omega) ?_
        | refine k_mul rfl rfl (by omega) ?_
        | refine k_neg rfl (by omega) ?_
        | refine k_quo rfl rfl (by omega) ?_
        | refine k_rem rfl rfl (by omega) ?_
        | refine k_conv rfl (by omega) ?_
        | refine k_max rfl rfl ?_
        | refine k_min rfl rfl ?_
        | refine k_lssT rfl rfl (by omega) ?_
        | refine k_lssF rfl rfl (by omega) ?_
        | refine k_lss rfl rfl (fun hc => ?_) (fun hc => ?_)
        | refine k_leqT rfl rfl (by omega) ?_
        | refine k_leqF rfl rfl (by omega) ?_
        | refine k_leq rfl rfl (fun hc => ?_) (fun hc => ?_)
        | refine k_gtrT rfl rfl (by omega) ?_
        | refine k_gtrF rfl rfl (by omega) ?_
        | refine k_gtr rfl rfl (fun hc => ?_) (fun hc => ?_)
        | refine k_geqT rfl rfl (by omega) ?_
        | refine k_geqF rfl rfl (by omega) ?_
        | refine k_geq rfl rfl (fun hc => ?_) (fun hc => ?_)
        | refine k_eqlT rfl rfl (by omega) ?_
        | refine k_eqlF rfl rfl (by omega) ?_
        | refine k_eql rfl rfl (fun hc => ?_) (fun hc => ?_)
        | refine k_neqT rfl rfl (by omega) ?_
        | refine k_neqF rfl rfl (by omega) ?_
        | refine k_neq rfl rfl (fun hc => ?_) (fun hc => ?_)
        | refine k_len rfl rfl ?_
        | refine k_ok rfl rfl ?_))
    exact w_roundX ⟨rfl, rfl, n, _, _, _, _, hn, hd.symm, rfl⟩
theorem call42 (h0 : Heap) (s : List UInt8) (hl : s.length ≤ 1000000) : ∃ v h', Cal FT HKt 42 [.sc (tb s)] h0 v h' ∧ v = letV s ∧ Ext h0 h' := by
  refine Cal.of (F := a42) rfl rfl rfl ?_
  match s, hl with
  | [], hl =>
    have z0 : (([] : List UInt8).length : Int) < 2 := by decide
    repeat' (first
      | refine w_seq ?_
      | refine w_seqN ?_
      | refine w_seqX ?_
      | refine w_seqR ?_
      | refine w_blk ?_
      | refine w_blkN ?_
      | refine w_blkX ?_
      | refine w_blkR ?_
      | refine w_skip ?_
      | refine w_ret ?_
      | refine w_exit ?_
      | refine w_ops ?_
      | refine w_opsD ?_
      | refine d_one ?_
      | refine d_nil ?_
      | ((refine i_cond ?_); first | refine w_condT rfl ?_ | refine w_condF rfl ?_)
      | ((refine i_nil ?_); first | refine d_same ?_ | refine d_ord ?_ | refine d_ext ⟨_, rfl⟩ ?_ | refine d_ext (extA _ _ _) ?_ | refine d_ext (by assumption) ?_ | refine w_end0 ?_ | refine w_end1 rfl ?_ | refine w_end2 rfl rfl ?_ | refine w_end3 rfl rfl rfl ?_ | refine w_end4 rfl rfl rfl rfl ?_ | refine w_end5 rfl rfl rfl rfl rfl ?_ | refine w_end6 rfl rfl rfl rfl rfl rfl ?_ | refine w_end7 rfl rfl rfl rfl rfl rfl rfl ?_ | refine w_end8 rfl rfl rfl rfl rfl rfl rfl rfl ?_ | refine w_end9 rfl rfl rfl rfl rfl rfl rfl rfl rfl ?_ | refine w_end10 rfl rfl rfl rfl rfl rfl rfl rfl rfl rfl ?_ | refine w_end11 rfl rfl rfl rfl rfl rfl rfl rfl rfl rfl rfl ?_ | refine w_end12 rfl rfl rfl rfl rfl rfl rfl rfl rfl rfl rfl rfl ?_ | refine w_end13 rfl rfl rfl rfl rfl rfl rfl rfl rfl rfl rfl rfl rfl ?_ | refine w_end14 rfl rfl rfl rfl rfl rfl rfl rfl rfl rfl rfl rfl rfl rfl ?_ | refine w_end15 rfl rfl rfl rfl rfl rfl rfl rfl rfl rfl rfl rfl rfl rfl rfl ?_ | refine w_end16 rfl rfl rfl rfl rfl rfl rfl rfl rfl rfl rfl rfl rfl rfl rfl rfl ?_)
      | ((refine i_cons ?_); first
        | refine k_slen rfl ?_
        | refine k_skip rfl ?_
        | refine k_skipU rfl ?_
        | refine k_want rfl ?_
        | refine k_mv rfl ?_
        | refine k_pickT rfl rfl ?_
        | refine k_pickF rfl rfl ?_
        | refine k_notT rfl ?_
        | refine k_notF rfl ?_
        | refine k_add rfl rfl (by omega) ?_
        | refine k_sub rfl rfl (by omega) ?_
        | refine k_mul rfl rfl (by omega) ?_
        | refine k_neg rfl (by omega) ?_
        | refine k_quo rfl rfl (by omega) ?_
        | refine k_rem rfl rfl (by omega) ?_
        | refine k_conv rfl (by omega) ?_
        | refine k_max rfl rfl ?_
        | refine k_min rfl rfl ?_
        | refine k_lssT rfl rfl (by omega) ?_
        | refine k_lssF rfl rfl (by omega) ?_
        | refine k_lss rfl rfl (fun hc => ?_) (fun hc => ?_)
        | refine k_leqT rfl rfl (by omega) ?_
        | refine k_leqF rfl rfl (by omega) ?_
        | refine k_leq rfl rfl (fun hc => ?_) (fun hc => ?_)
        | refine k_gtrT rfl rfl (by omega) ?_
        | refine k_gtrF rfl rfl (by omega) ?_
        | refine k_gtr rfl rfl (fun hc => ?_) (fun hc => ?_)
        | refine k_geqT rfl rfl (by omega) ?_
        | refine k_geqF rfl rfl (by omega) ?_
        | refine k_geq rfl rfl (fun hc => ?_) (fun hc => ?_)
        | refine k_eqlT rfl rfl (by omega) ?_
        | refine k_eqlF rfl rfl (by omega) ?_
        | refine k_eql rfl rfl (fun hc => ?_) (fun hc => ?_)
        | refine k_neqT rfl rfl (by omega) ?_
        | refine k_neqF rfl rfl (by omega) ?_
        | refine k_neq rfl rfl (fun hc => ?_) (fun hc => ?_)
        | refine k_len rfl rfl ?_
        | refine k_ok rfl rfl ?_))
    exact ⟨.inr rfl, rfl, Ext.refl _⟩
  | [c], hl =>
    have z0 : (([c] : List UInt8).length : Int) < 2 := by simp
    repeat' (first
      | refine w_seq ?_
      | refine w_seqN ?_
      | refine w_seqX ?_
      | refine w_seqR ?_
      | refine w_blk ?_
      | refine w_blkN ?_
      | refine w_blkX ?_
      | refine w_blkR ?_
      | refine w_skip ?_
      | refine w_ret ?_
      | refine w_exit ?_
      | refine w_ops ?_
      | refine w_opsD ?_
      | refine d_one ?_
      | refine d_nil ?_
      | ((refine i_cond ?_); first | refine w_condT rfl ?_ | refine w_condF rfl ?_)
      | ((refine i_nil ?_); first | refine d_same ?_ | refine d_ord ?_ | refine d_ext ⟨_, rfl⟩ ?_ | refine d_ext (extA _ _ _) ?_ | refine d_ext (by assumption) ?_ | refine w_end0 ?_ | refine w_end1 rfl ?_ | refine w_end2 rfl rfl ?_ | refine w_end3 rfl rfl rfl ?_ | refine w_end4 rfl rfl rfl rfl ?_ | refine w_end5 rfl rfl rfl rfl rfl ?_ | refine w_end6 rfl rfl rfl rfl rfl rfl ?_ | refine w_end7 rfl rfl rfl rfl rfl rfl rfl ?_ | refine w_end8 rfl rfl rfl rfl rfl rfl rfl rfl ?_ | refine w_end9 rfl rfl rfl rfl rfl rfl rfl rfl rfl ?_ | refine w_end10 rfl rfl rfl rfl rfl rfl rfl rfl rfl rfl ?_ | refine w_end11 rfl rfl rfl rfl rfl rfl rfl rfl rfl rfl rfl ?_ | refine w_end12 rfl rfl rfl rfl rfl rfl rfl rfl rfl rfl rfl rfl ?_ | refine w_end13 rfl rfl rfl rfl rfl rfl rfl rfl rfl rfl rfl rfl rfl ?_ | refine w_end14 rfl rfl rfl rfl rfl rfl rfl rfl rfl rfl rfl rfl rfl rfl ?_ | refine w_end15 rfl rfl rfl rfl rfl rfl rfl rfl rfl rfl rfl rfl rfl rfl rfl ?_ | refine w_end16 rfl rfl rfl rfl rfl rfl rfl rfl rfl rfl rfl rfl rfl rfl rfl rfl ?_)
      | ((refine i_cons ?_); first
        | refine k_slen rfl ?_
        | refine k_skip rfl ?_
        | refine k_skipU rfl ?_
        | refine k_want rfl ?_
        | refine k_mv rfl ?_
        | refine k_pickT rfl rfl ?_
        | refine k_pickF rfl rfl ?_
        | refine k_notT rfl ?_
        | refine k_notF rfl ?_
        | refine k_add rfl rfl (by omega) ?_
        | refine k_sub rfl rfl (by omega) ?_
        | refine k_mul rfl rfl (by omega) ?_
        | refine k_neg rfl (by omega) ?_
        | refine k_quo rfl rfl (by omega) ?_
        | refine k_rem rfl rfl (by omega) ?_
        | refine k_conv rfl (by omega) ?_
        | refine k_max rfl rfl ?_
        | refine k_min rfl rfl ?_
        | refine k_lssT rfl rfl (by omega) ?_
        | refine k_lssF rfl rfl (by omega) ?_
        | refine k_lss rfl rfl (fun hc => ?_) (fun hc => ?_)
        | refine k_leqT rfl rfl (by omega) ?_
        | refine k_leqF rfl rfl (by omega) ?_
        | refine k_leq rfl rfl (fun hc => ?_) (fun hc => ?_)
        | refine k_gtrT rfl rfl (by omega) ?_
        | refine k_gtrF rfl rfl (by omega) ?_
        | refine k_gtr rfl rfl (fun hc => ?_) (fun hc => ?_)
        | refine k_geqT rfl rfl (by omega) ?_
        | refine k_geqF rfl rfl (by omega) ?_
        | refine k_geq rfl rfl (fun hc => ?_) (fun hc => ?_)
        | refine k_eqlT rfl rfl (by omega) ?_
        | refine k_eqlF rfl rfl (by omega) ?_
        | refine k_eql rfl rfl (fun hc => ?_) (fun hc => ?_)
        | refine k_neqT rfl rfl (by omega) ?_
        | refine k_neqF rfl rfl (by omega) ?_
        | refine k_neq rfl rfl (fun hc => ?_) (fun hc => ?_)
        | refine k_len rfl rfl ?_
        | refine k_ok rfl rfl ?_))
    exact ⟨.inr rfl, rfl, Ext.refl _⟩
  | c :: d :: r, hl =>
    have hl2 : (2 : Int) ≤ ((c :: d :: r : List UInt8).length : Int) := by simp; omega
    have hc := fun (x : Prop) => x
    have g0 : (c :: d :: r : List UInt8)[(0 : Int).toNat]? = some c := rfl
    have g1 : (c :: d :: r : List UInt8)[(1 : Int).toNat]? = some d := rfl
    unfold letV
    rw [letP_cons]
    by_cases hk : (c.toNat = 120 ∨ c.toNat = 88) ∧ d.toNat ≠ 48
    · obtain ⟨hk1, hk2⟩ := hk
      rw [if_pos ⟨hk1, hk2⟩]
      have e1 : (c :: d :: r : List UInt8).drop (1 : Int).toNat = d :: r := rfl
      have go : ∀ (K : Prop), (c.toNat = 120 → K) → (c.toNat = 88 → K) → K := fun K a b => hk1.elim a b
      refine go _ (fun h120 => ?_) (fun h88 => ?_)
      · repeat' (first
   | refine w_seq ?_
   | refine w_seqN ?_
   | refine w_seqX ?_
   | refine w_seqR ?_
   | refine w_blk ?_
   | refine w_blkN ?_
   | refine w_blkX ?_
   | refine w_blkR ?_
   | refine w_skip ?_
   | refine w_ret ?_
   | refine w_exit ?_
   | refine w_ops ?_
   | refine w_opsD ?_
   | refine d_one ?_
   | refine d_nil ?_
   | ((refine i_cond ?_); first | refine w_condT rfl ?_ | refine w_condF rfl ?_)
   | ((refine i_nil ?_); first | refine d_same ?_ | refine d_ord ?_ | refine d_ext ⟨_, rfl⟩ ?_ | refine d_ext (extA _ _ _) ?_ | refine d_ext (by assumption) ?_ | refine w_end0 ?_ | refine w_end1 rfl ?_ | refine w_end2 rfl rfl ?_ | refine w_end3 rfl rfl rfl ?_ | refine w_end4 rfl rfl rfl rfl ?_ | refine w_end5 rfl rfl rfl rfl rfl ?_ | refine w_end6 rfl rfl rfl rfl rfl rfl ?_ | refine w_end7 rfl rfl rfl rfl rfl rfl rfl ?_ | refine w_end8 rfl rfl rfl rfl rfl rfl rfl rfl ?_ | refine w_end9 rfl rfl rfl rfl rfl rfl rfl rfl rfl ?_ | refine w_end10 rfl rfl rfl rfl rfl rfl rfl rfl rfl rfl ?_ | refine w_end11 rfl rfl rfl rfl rfl rfl rfl rfl rfl rfl rfl ?_ | refine w_end12 rfl rfl rfl rfl rfl rfl rfl rfl rfl rfl rfl rfl ?_ | refine w_end13 rfl rfl rfl rfl rfl rfl rfl rfl rfl rfl rfl rfl rfl ?_ | refine w_end14 rfl rfl rfl rfl rfl rfl rfl rfl rfl rfl rfl rfl rfl rfl ?_ | refine w_end15 rfl rfl rfl rfl rfl rfl rfl rfl rfl rfl rfl rfl rfl rfl rfl ?_ | refine w_end16 rfl rfl rfl rfl rfl rfl rfl rfl rfl rfl rfl rfl rfl rfl rfl rfl ?_)
   | ((refine i_cons ?_); first
     | refine k_slen rfl ?_
     | refine k_sidx rfl rfl (by omega) g0 ?_
     | refine k_sidx rfl rfl (by omega) g1 ?_
     | refine k_sfrom rfl rfl (by omega) ?_
     | (refine k_cvb rfl ?_; intro q h1 i1 ee; rw [e1] at i1; have l1 := IsSl.len i1)
     | refine k_len rfl l1 ?_
     | refine k_skip rfl ?_
     | refine k_skipU rfl ?_
     | refine k_want rfl ?_
     | refine k_mv rfl ?_
     | refine k_pickT rfl rfl ?_
     | refine k_pickF rfl rfl ?_
     | refine k_notT rfl ?_
     | refine k_notF rfl ?_
     | refine k_add rfl rfl (by omega) ?_
     | refine k_sub rfl rfl (by omega) ?_
     | refine k_mul rfl rfl (by omega) ?_
     | refine k_neg rfl (by omega) ?_
     | refine k_quo rfl rfl (by omega) ?_
     | refine k_rem rfl rfl (by omega) ?_
     | refine k_conv rfl (by omega) ?_
     | refine k_max rfl rfl ?_
     | refine k_min rfl rfl ?_
     | refine k_lssT rfl rfl (by omega) ?_
     | refine k_lssF rfl rfl (by omega) ?_
     | refine k_lss rfl rfl (fun hc => ?_) (fun hc => ?_)
     | refine k_leqT rfl rfl (by omega) ?_
     | refine k_leqF rfl rfl (by omega) ?_
     | refine k_leq rfl rfl (fun hc => ?_) (fun hc => ?_)
     | refine k_gtrT rfl rfl (by omega) ?_
     | refine k_gtrF rfl rfl (by omega) ?_
     | refine k_gtr rfl rfl (fun hc => ?_) (fun hc => ?_)
     | refine k_geqT rfl rfl (by omega) ?_
     | refine k_geqF rfl rfl (by omega) ?_
     | refine k_geq rfl rfl (fun hc => ?_) (fun hc => ?_)
     | refine k_eqlT rfl rfl (by omega) ?_
     | refine k_eqlF rfl rfl (by omega) ?_
     | refine k_eql rfl rfl (fun hc => ?_) (fun hc => ?_)
     | refine k_neqT rfl rfl (by omega) ?_
     | refine k_neqF rfl rfl (by omega) ?_
     | refine k_neq rfl rfl (fun hc => ?_) (fun hc => ?_)
     | refine k_len rfl rfl ?_
     | refine k_ok rfl rfl ?_))
        refine w_loop (I42 h0 _ (c :: d :: r) (d :: r) _) (cnt (d :: r).length 29) (R42 _ (c :: d :: r) (d :: r)) ⟨0, 0, Nat.zero_le _, rfl, by omega, rfl, rfl⟩ (round42 h0 _ _ _ _ i1 (by simp at hl ⊢; omega)) ?_
        rintro ex E' h' ⟨rfl, hR⟩
        cases ex with
        | nm => exact hR.elim
        | ex i =>
          obtain ⟨rfl, n, a, b, c', d', hn, hd, rfl⟩ := hR
          rw [hd]
          simp only [Option.map_some]
          rw [if_neg (by omega)]
          repeat' (first
            | refine w_seq ?_
            | refine w_seqN ?_
            | refine w_seqX ?_
            | refine w_seqR ?_
            | refine w_blk ?_
            | refine w_blkN ?_
            | refine w_blkX ?_
            | refine w_blkR ?_
            | refine w_skip ?_
            | refine w_ret ?_
            | refine w_exit ?_
            | refine w_ops ?_
            | refine w_opsD ?_
            | refine d_one ?_
            | refine d_nil ?_
            | ((refine i_cond ?_); first | refine w_condT rfl ?_ | refine w_condF rfl ?_)
            | ((refine i_nil ?_); first | refine d_same ?_ | refine d_ord ?_ | refine d_ext ⟨_, rfl⟩ ?_ | refine d_ext (extA _ _ _) ?_ | refine d_ext (by assumption) ?_ | refine w_end0 ?_ | refine w_end1 rfl ?_ | refine w_end2 rfl rfl ?_ | refine w_end3 rfl rfl rfl ?_ | refine w_end4 rfl rfl rfl rfl ?_ | refine w_end5 rfl rfl rfl rfl rfl ?_ | refine w_end6 rfl rfl rfl rfl rfl rfl ?_ | refine w_end7 rfl rfl rfl rfl rfl rfl rfl ?_ | refine w_end8 rfl rfl rfl rfl rfl rfl rfl rfl ?_ | refine w_end9 rfl rfl rfl rfl rfl rfl rfl rfl rfl ?_ | refine w_end10 rfl rfl rfl rfl rfl rfl rfl rfl rfl rfl ?_ | refine w_end11 rfl rfl rfl rfl rfl rfl rfl rfl rfl rfl rfl ?_ | refine w_end12 rfl rfl rfl rfl rfl rfl rfl rfl rfl rfl rfl rfl ?_ | refine w_end13 rfl rfl rfl rfl rfl rfl rfl rfl rfl rfl rfl rfl rfl ?_ | refine w_end14 rfl rfl rfl rfl rfl rfl rfl rfl rfl rfl rfl rfl rfl rfl ?_ | refine w_end15 rfl rfl rfl rfl rfl rfl rfl rfl rfl rfl rfl rfl rfl rfl rfl ?_ | refine w_end16 rfl rfl rfl rfl rfl rfl rfl rfl rfl rfl rfl rfl rfl rfl rfl rfl ?_)
            | ((refine i_cons ?_); first
              | refine k_sidx rfl rfl (by omega) g0 ?_
              | refine k_skip rfl ?_
              | refine k_skipU rfl ?_
              | refine k_want rfl ?_
              | refine k_mv rfl ?_
              | refine k_pickT rfl rfl ?_
              | refine k_pickF rfl rfl ?_
              | refine k_notT rfl ?_
              | refine k_notF rfl ?_
              | refine k_add rfl rfl (by omega) ?_
              | refine k_sub rfl rfl (by omega) ?_
              | refine k_mul rfl rfl (by omega) ?_
              | refine k_neg rfl (by omega) ?_
              | refine k_quo rfl rfl (by omega) ?_
              | refine k_rem rfl rfl (by omega) ?_
              | refine k_conv rfl (by omega) ?_
              | refine k_max rfl rfl ?_
              | refine k_min rfl rfl ?_
              | refine k_lssT rfl rfl (by omega) ?_
              | refine k_lssF rfl rfl (by omega) ?_
              | refine k_lss rfl rfl (fun hc => ?_) (fun hc => ?_)
              | refine k_leqT rfl rfl (by omega) ?_
              | refine k_leqF rfl rfl (by omega) ?_
              | refine k_leq rfl rfl (fun hc => ?_) (fun hc => ?_)
              | refine k_gtrT rfl rfl (by omega) ?_
              | refine k_gtrF rfl rfl (by omega) ?_
              | refine k_gtr rfl rfl (fun hc => ?_) (fun hc => ?_)
              | refine k_geqT rfl rfl (by omega) ?_
              | refine k_geqF rfl rfl (by omega) ?_
              | refine k_geq rfl rfl (fun hc => ?_) (fun hc => ?_)
              | refine k_eqlT rfl rfl (by omega) ?_
              | refine k_eqlF rfl rfl (by omega) ?_
              | refine k_eql rfl rfl (fun hc => ?_) (fun hc => ?_)
              | refine k_neqT rfl rfl (by omega) ?_
              | refine k_neqF rfl rfl (by omega) ?_
              | refine k_neq rfl rfl (fun hc => ?_) (fun hc => ?_)
              | refine k_len rfl rfl ?_
              | refine k_ok rfl rfl ?_))
          exact ⟨.inr rfl, rfl, ee⟩
        | rt =>
          obtain ⟨rfl, hd⟩ := hR
          rw [hd]
          repeat' (first
            | refine w_seq ?_
            | refine w_seqN ?_
            | refine w_seqX ?_
            | refine w_seqR ?_
            | refine w_blk ?_
            | refine w_blkN ?_
            | refine w_blkX ?_
            | refine w_blkR ?_
            | refine w_skip ?_
            | refine w_ret ?_
            | refine w_exit ?_
            | refine w_ops ?_
            | refine w_opsD ?_
            | refine d_one ?_
            | refine d_nil ?_
            | ((refine i_cond ?_); first | refine w_condT rfl ?_ | refine w_condF rfl ?_)
            | ((refine i_nil ?_); first | refine d_same ?_ | refine d_ord ?_ | refine d_ext ⟨_, rfl⟩ ?_ | refine d_ext (extA _ _ _) ?_ | refine d_ext (by assumption) ?_ | refine w_end0 ?_ | refine w_end1 rfl ?_ | refine w_end2 rfl rfl ?_ | refine w_end3 rfl rfl rfl ?_ | refine w_end4 rfl rfl rfl rfl ?_ | refine w_end5 rfl rfl rfl rfl rfl ?_ | refine w_end6 rfl rfl rfl rfl rfl rfl ?_ | refine w_end7 rfl rfl rfl rfl rfl rfl rfl ?_ | refine w_end8 rfl rfl rfl rfl rfl rfl rfl rfl ?_ | refine w_end9 rfl rfl rfl rfl rfl rfl rfl rfl rfl ?_ | refine w_end10 rfl rfl rfl rfl rfl rfl rfl rfl rfl rfl ?_ | refine w_end11 rfl rfl rfl rfl rfl rfl rfl rfl rfl rfl rfl ?_ | refine w_end12 rfl rfl rfl rfl rfl rfl rfl rfl rfl rfl rfl rfl ?_ | refine w_end13 rfl rfl rfl rfl rfl rfl rfl rfl rfl rfl rfl rfl rfl ?_ | refine w_end14 rfl rfl rfl rfl rfl rfl rfl rfl rfl rfl rfl rfl rfl rfl ?_ | refine w_end15 rfl rfl rfl rfl rfl rfl rfl rfl rfl rfl rfl rfl rfl rfl rfl ?_ | refine w_end16 rfl rfl rfl rfl rfl rfl rfl rfl rfl rfl rfl rfl rfl rfl rfl rfl ?_)
            | ((refine i_cons ?_); first
              | refine k_skip rfl ?_
              | refine k_skipU rfl ?_
              | refine k_want rfl ?_
              | refine k_mv rfl ?_
              | refine k_pickT rfl rfl ?_
              | refine k_pickF rfl rfl ?_
              | refine k_notT rfl ?_
              | refine k_notF rfl ?_
              | refine k_add rfl rfl (by omega) ?_
              | refine k_sub rfl rfl (by omega) ?_
              | refine k_mul rfl rfl (by omega) ?_
              | refine k_neg rfl (by omega) ?_
              | refine k_quo rfl rfl (by omega) ?_
              | refine k_rem rfl rfl (by omega) ?_
              | refine k_conv rfl (by omega) ?_
              | refine k_max rfl rfl ?_
              | refine k_min rfl rfl ?_
              | refine k_lssT rfl rfl (by omega) ?_
              | refine k_lssF rfl rfl (by omega) ?_
              | refine k_lss rfl rfl (fun hc => ?_) (fun hc => ?_)
              | refine k_leqT rfl rfl (by omega) ?_
              | refine k_leqF rfl rfl (by omega) ?_
              | refine k_leq rfl rfl (fun hc => ?_) (fun hc => ?_)
              | refine k_gtrT rfl rfl (by omega) ?_
              | refine k_gtrF rfl rfl (by omega) ?_
              | refine k_gtr rfl rfl (fun hc => ?_) (fun hc => ?_)
              | refine k_geqT rfl rfl (by omega) ?_
              | refine k_geqF rfl rfl (by omega) ?_
              | refine k_geq rfl rfl (fun hc => ?_) (fun hc => ?_)
              | refine k_eqlT rfl rfl (by omega) ?_
              | refine k_eqlF rfl rfl (by omega) ?_
              | refine k_eql rfl rfl (fun hc => ?_) (fun hc => ?_)
              | refine k_neqT rfl rfl (by omega) ?_
              | refine k_neqF rfl rfl (by omega) ?_
              | refine k_neq rfl rfl (fun hc => ?_) (fun hc => ?_)
              | refine k_len rfl rfl ?_
              | refine k_ok rfl rfl ?_))
          exact ⟨.inr rfl, rfl, ee⟩
      · repeat' (first
   | refine w_seq ?_
   | refine w_seqN ?_
   | refine w_seqX ?_
   | refine w_seqR ?_
   | refine w_blk ?_
   | refine w_blkN ?_
   | refine w_blkX ?_
   | refine w_blkR ?_
   | refine w_skip ?_
   | refine w_ret ?_
   | refine w_exit ?_
   | refine w_ops ?_
   | refine w_opsD ?_
   | refine d_one ?_
   | refine d_nil ?_
   | ((refine i_cond ?_); first | refine w_condT rfl ?_ | refine w_condF rfl ?_)
   | ((refine i_nil ?_); first | refine d_same ?_ | refine d_ord ?_ | refine d_ext ⟨_, rfl⟩ ?_ | refine d_ext (extA _ _ _) ?_ | refine d_ext (by assumption) ?_ | refine w_end0 ?_ | refine w_end1 rfl ?_ | refine w_end2 rfl rfl ?_ | refine w_end3 rfl rfl rfl ?_ | refine w_end4 rfl rfl rfl rfl ?_ | refine w_end5 rfl rfl rfl rfl rfl ?_ | refine w_end6 rfl rfl rfl rfl rfl rfl ?_ | refine w_end7 rfl rfl rfl rfl rfl rfl rfl ?_ | refine w_end8 rfl rfl rfl rfl rfl rfl rfl rfl ?_ | refine w_end9 rfl rfl rfl rfl rfl rfl rfl rfl rfl ?_ | refine w_end10 rfl rfl rfl rfl rfl rfl rfl rfl rfl rfl ?_ | refine w_end11 rfl rfl rfl rfl rfl rfl rfl rfl rfl rfl rfl ?_ | refine w_end12 rfl rfl rfl rfl rfl rfl rfl rfl rfl rfl rfl rfl ?_ | refine w_end13 rfl rfl rfl rfl rfl rfl rfl rfl rfl rfl rfl rfl rfl ?_ | refine w_end14 rfl rfl rfl rfl rfl rfl rfl rfl rfl rfl rfl rfl rfl rfl ?_ | refine w_end15 rfl rfl rfl rfl rfl rfl rfl rfl rfl rfl rfl rfl rfl rfl rfl ?_ | refine w_end16 rfl rfl rfl rfl rfl rfl rfl rfl rfl rfl rfl rfl rfl rfl rfl rfl ?_)
   | ((refine i_cons ?_); first
     | refine k_slen rfl ?_
     | refine k_sidx rfl rfl (by omega) g0 ?_
     | refine k_sidx rfl rfl (by omega) g1 ?_
     | refine k_sfrom rfl rfl (by omega) ?_
     | (refine k_cvb rfl ?_; intro q h1 i1 ee; rw [e1] at i1; have l1 := IsSl.len i1)
     | refine k_len rfl l1 ?_
     | refine k_skip rfl ?_
     | refine k_skipU rfl ?_
     | refine k_want rfl ?_
     | refine k_mv rfl ?_
     | refine k_pickT rfl rfl ?_
     | refine k_pickF rfl rfl ?_
     | refine k_notT rfl ?_
     | refine k_notF rfl ?_
     | refine k_add rfl rfl (by omega) ?_
     | refine k_sub rfl rfl (by omega) ?_
     | refine k_mul rfl rfl (by omega) ?_
     | refine k_neg rfl (by omega) ?_
     | refine k_quo rfl rfl (by omega) ?_
     | refine k_rem rfl rfl (by omega) ?_
     | refine k_conv rfl (by omega) ?_
     | refine k_max rfl rfl ?_
     | refine k_min rfl rfl ?_
     | refine k_lssT rfl rfl (by omega) ?_
     | refine k_lssF rfl rfl (by omega) ?_
     | refine k_lss rfl rfl (fun hc => ?_) (fun hc => ?_)
     | refine k_leqT rfl rfl (by omega) ?_
     | refine k_leqF rfl rfl (by omega) ?_
     | refine k_leq rfl rfl (fun hc => ?_) (fun hc => ?_)
     | refine k_gtrT rfl rfl (by omega) ?_
     | refine k_gtrF rfl rfl (by omega) ?_
     | refine k_gtr rfl rfl (fun hc => ?_) (fun hc => ?_)
     | refine k_geqT rfl rfl (by omega) ?_
     | refine k_geqF rfl rfl (by omega) ?_
     | refine k_geq rfl rfl (fun hc => ?_) (fun hc => ?_)
     | refine k_eqlT rfl rfl (by omega) ?_
     | refine k_eqlF rfl rfl (by omega) ?_
     | refine k_eql rfl rfl (fun hc => ?_) (fun hc => ?_)
     | refine k_neqT rfl rfl (by omega) ?_
     | refine k_neqF rfl rfl (by omega) ?_
     | refine k_neq rfl rfl (fun hc => ?_) (fun hc => ?_)
     | refine k_len rfl rfl ?_
     | refine k_ok rfl rfl ?_))
        refine w_loop (I42 h0 _ (c :: d :: r) (d :: r) _) (cnt (d :: r).length 29) (R42 _ (c :: d :: r) (d :: r)) ⟨0, 0, Nat.zero_le _, rfl, by omega, rfl, rfl⟩ (round42 h0 _ _ _ _ i1 (by simp at hl ⊢; omega)) ?_
        rintro ex E' h' ⟨rfl, hR⟩
        cases ex with
        | nm => exact hR.elim
        | ex i =>
          obtain ⟨rfl, n, a, b, c', d', hn, hd, rfl⟩ := hR
          rw [hd]
          simp only [Option.map_some]
          rw [if_pos h88]
          repeat' (first
            | refine w_seq ?_
            | refine w_seqN ?_
            | refine w_seqX ?_
            | refine w_seqR ?_
            | refine w_blk ?_
            | refine w_blkN ?_
            | refine w_blkX ?_
            | refine w_blkR ?_
            | refine w_skip ?_
            | refine w_ret ?_
            | refine w_exit ?_
            | refine w_ops ?_
            | refine w_opsD ?_
            | refine d_one ?_
            | refine d_nil ?_
            | ((refine i_cond ?_); first | refine w_condT rfl ?_ | refine w_condF rfl ?_)
            | ((refine i_nil ?_); first | refine d_same ?_ | refine d_ord ?_ | refine d_ext ⟨_, rfl⟩ ?_ | refine d_ext (extA _ _ _) ?_ | refine d_ext (by assumption) ?_ | refine w_end0 ?_ | refine w_end1 rfl ?_ | refine w_end2 rfl rfl ?_ | refine w_end3 rfl rfl rfl ?_ | refine w_end4 rfl rfl rfl rfl ?_ | refine w_end5 rfl rfl rfl rfl rfl ?_ | refine w_end6 rfl rfl rfl rfl rfl rfl ?_ | refine w_end7 rfl rfl rfl rfl rfl rfl rfl ?_ | refine w_end8 rfl rfl rfl rfl rfl rfl rfl rfl ?_ | refine w_end9 rfl rfl rfl rfl rfl rfl rfl rfl rfl ?_ | refine w_end10 rfl rfl rfl rfl rfl rfl rfl rfl rfl rfl ?_ | refine w_end11 rfl rfl rfl rfl rfl rfl rfl rfl rfl rfl rfl ?_ | refine w_end12 rfl rfl rfl rfl rfl rfl rfl rfl rfl rfl rfl rfl ?_ | refine w_end13 rfl rfl rfl rfl rfl rfl rfl rfl rfl rfl rfl rfl rfl ?_ | refine w_end14 rfl rfl rfl rfl rfl rfl rfl rfl rfl rfl rfl rfl rfl rfl ?_ | refine w_end15 rfl rfl rfl rfl rfl rfl rfl rfl rfl rfl rfl rfl rfl rfl rfl ?_ | refine w_end16 rfl rfl rfl rfl rfl rfl rfl rfl rfl rfl rfl rfl rfl rfl rfl rfl ?_)
            | ((refine i_cons ?_); first
              | refine k_sidx rfl rfl (by omega) g0 ?_
              | refine k_skip rfl ?_
              | refine k_skipU rfl ?_
              | refine k_want rfl ?_
              | refine k_mv rfl ?_
              | refine k_pickT rfl rfl ?_
              | refine k_pickF rfl rfl ?_
              | refine k_notT rfl ?_
              | refine k_notF rfl ?_
              | refine k_add rfl rfl (by omega) ?_
              | refine k_sub rfl rfl (by omega) ?_
              | refine k_mul rfl rfl (by omega) ?_
              | refine k_neg rfl (by omega) ?_
              | refine k_quo rfl rfl (by omega) ?_
              | refine k_rem rfl rfl (by omega) ?_
              | refine k_conv rfl (by omega) ?_
              | refine k_max rfl rfl ?_
              | refine k_min rfl rfl ?_
              | refine k_lssT rfl rfl (by omega) ?_
              | refine k_lssF rfl rfl (by omega) ?_
              | refine k_lss rfl rfl (fun hc => ?_) (fun hc => ?_)
              | refine k_leqT rfl rfl (by omega) ?_
              | refine k_leqF rfl rfl (by omega) ?_
              | refine k_leq rfl rfl (fun hc => ?_) (fun hc => ?_)
              | refine k_gtrT rfl rfl (by omega) ?_
              | refine k_gtrF rfl rfl (by omega) ?_
              | refine k_gtr rfl rfl (fun hc => ?_) (fun hc => ?_)
              | refine k_geqT rfl rfl (by omega) ?_
              | refine k_geqF rfl rfl (by omega) ?_
              | refine k_geq rfl rfl (fun hc => ?_) (fun hc => ?_)
              | refine k_eqlT rfl rfl (by omega) ?_
              | refine k_eqlF rfl rfl (by omega) ?_
              | refine k_eql rfl rfl (fun hc => ?_) (fun hc => ?_)
              | refine k_neqT rfl rfl (by omega) ?_
              | refine k_neqF rfl rfl (by omega) ?_
              | refine k_neq rfl rfl (fun hc => ?_) (fun hc => ?_)
              | refine k_len rfl rfl ?_
              | refine k_ok rfl rfl ?_))
          exact ⟨.inr rfl, rfl, ee⟩
        | rt =>
          obtain ⟨rfl, hd⟩ := hR
          rw [hd]
          repeat' (first
            | refine w_seq ?_
            | refine w_seqN ?_
            | refine w_seqX ?_
            | refine w_seqR ?_
            | refine w_blk ?_
            | refine w_blkN ?_
            | refine w_blkX ?_
            | refine w_blkR ?_
            | refine w_skip ?_
            | refine w_ret ?_
            | refine w_exit ?_
            | refine w_ops ?_
            | refine w_opsD ?_
            | refine d_one ?_
            | refine d_nil ?_
            | ((refine i_cond ?_); first | refine w_condT rfl ?_ | refine w_condF rfl ?_)
            | ((refine i_nil ?_); first | refine d_same ?_ | refine d_ord ?_ | refine d_ext ⟨_, rfl⟩ ?_ | refine d_ext (extA _ _ _) ?_ | refine d_ext (by assumption) ?_ | refine w_end0 ?_ | refine w_end1 rfl ?_ | refine w_end2 rfl rfl ?_ | refine w_end3 rfl rfl rfl ?_ | refine w_end4 rfl rfl rfl rfl ?_ | refine w_end5 rfl rfl rfl rfl rfl ?_ | refine w_end6 rfl rfl rfl rfl rfl rfl ?_ | refine w_end7 rfl rfl rfl rfl rfl rfl rfl ?_ | refine w_end8 rfl rfl rfl rfl rfl rfl rfl rfl ?_ | refine w_end9 rfl rfl rfl rfl rfl rfl rfl rfl rfl ?_ | refine w_end10 rfl rfl rfl rfl rfl rfl rfl rfl rfl rfl ?_ | refine w_end11 rfl rfl rfl rfl rfl rfl rfl rfl rfl rfl rfl ?_ | refine w_end12 rfl rfl rfl rfl rfl rfl rfl rfl rfl rfl rfl rfl ?_ | refine w_end13 rfl rfl rfl rfl rfl rfl rfl rfl rfl rfl rfl rfl rfl ?_ | refine w_end14 rfl rfl rfl rfl rfl rfl rfl rfl rfl rfl rfl rfl rfl rfl ?_ | refine w_end15 rfl rfl rfl rfl rfl rfl rfl rfl rfl rfl rfl rfl rfl rfl rfl ?_ | refine w_end16 rfl rfl rfl rfl rfl rfl rfl rfl rfl rfl rfl rfl rfl rfl rfl rfl ?_)
            | ((refine i_cons ?_); first
              | refine k_skip rfl ?_
              | refine k_skipU rfl ?_
              | refine k_want rfl ?_
              | refine k_mv rfl ?_
              | refine k_pickT rfl rfl ?_
              | refine k_pickF rfl rfl ?_
              | refine k_notT rfl ?_
              | refine k_notF rfl ?_
              | refine k_add rfl rfl (by omega) ?_
              | refine k_sub rfl rfl (by omega) ?_
              | refine k_mul rfl rfl (by omega) ?_
              | refine k_neg rfl (by omega) ?_
              | refine k_quo rfl rfl (by omega) ?_
              | refine k_rem rfl rfl (by omega) ?_
              | refine k_conv rfl (by omega) ?_
              | refine k_max rfl rfl ?_
              | refine k_min rfl rfl ?_
              | refine k_lssT rfl rfl (by omega) ?_
              | refine k_lssF rfl rfl (by omega) ?_
              | refine k_lss rfl rfl (fun hc => ?_) (fun hc => ?_)
              | refine k_leqT rfl rfl (by omega) ?_
              | refine k_leqF rfl rfl (by omega) ?_
              | refine k_leq rfl rfl (fun hc => ?_) (fun hc => ?_)
              | refine k_gtrT rfl rfl (by omega) ?_
              | refine k_gtrF rfl rfl (by omega) ?_
              | refine k_gtr rfl rfl (fun hc => ?_) (fun hc => ?_)
              | refine k_geqT rfl rfl (by omega) ?_
              | refine k_geqF rfl rfl (by omega) ?_
              | refine k_geq rfl rfl (fun hc => ?_) (fun hc => ?_)
              | refine k_eqlT rfl rfl (by omega) ?_
              | refine k_eqlF rfl rfl (by omega) ?_
              | refine k_eql rfl rfl (fun hc => ?_) (fun hc => ?_)
              | refine k_neqT rfl rfl (by omega) ?_
              | refine k_neqF rfl rfl (by omega) ?_
              | refine k_neq rfl rfl (fun hc => ?_) (fun hc => ?_)
              | refine k_len rfl rfl ?_
              | refine k_ok rfl rfl ?_))
          exact ⟨.inr rfl, rfl, ee⟩
    · rw [if_neg hk]
      by_cases h120 : c.toNat = 120
      · have hd48 : d.toNat = 48 := Classical.byContradiction fun h => hk ⟨.inl h120, h⟩
        repeat' (first
          | refine w_seq ?_
          | refine w_seqN ?_
          | refine w_seqX ?_
          | refine w_seqR ?_
          | refine w_blk ?_
          | refine w_blkN ?_
          | refine w_blkX ?_
          | refine w_blkR ?_
          | refine w_skip ?_
          | refine w_ret ?_
          | refine w_exit ?_
          | refine w_ops ?_
          | refine w_opsD ?_
          | refine d_one ?_
          | refine d_nil ?_
          | ((refine i_cond ?_); first | refine w_condT rfl ?_ | refine w_condF rfl ?_)
          | ((refine i_nil ?_); first | refine d_same ?_ | refine d_ord ?_ | refine d_ext ⟨_, rfl⟩ ?_ | refine d_ext (extA _ _ _) ?_ | refine d_ext (by assumption) ?_ | refine w_end0 ?_ | refine w_end1 rfl ?_ | refine w_end2 rfl rfl ?_ | refine w_end3 rfl rfl rfl ?_ | refine w_end4 rfl rfl rfl rfl ?_ | refine w_end5 rfl rfl rfl rfl rfl ?_ | refine w_end6 rfl rfl rfl rfl rfl rfl ?_ | refine w_end7 rfl rfl rfl rfl rfl rfl rfl ?_ | refine w_end8 rfl rfl rfl rfl rfl rfl rfl rfl ?_ | refine w_end9 rfl rfl rfl rfl rfl rfl rfl rfl rfl ?_ | refine w_end10 rfl rfl rfl rfl rfl rfl rfl rfl rfl rfl ?_ | refine w_end11 rfl rfl rfl rfl rfl rfl rfl rfl rfl rfl rfl ?_ | refine w_end12 rfl rfl rfl rfl rfl rfl rfl rfl rfl rfl rfl rfl ?_ | refine w_end13 rfl rfl rfl rfl rfl rfl rfl rfl rfl rfl rfl rfl rfl ?_ | refine w_end14 rfl rfl rfl rfl rfl rfl rfl rfl rfl rfl rfl rfl rfl rfl ?_ | refine w_end15 rfl rfl rfl rfl rfl rfl rfl rfl rfl rfl rfl rfl rfl rfl rfl ?_ | refine w_end16 rfl rfl rfl rfl rfl rfl rfl rfl rfl rfl rfl rfl rfl rfl rfl rfl ?_)
          | ((refine i_cons ?_); first
            | refine k_slen rfl ?_
            | refine k_sidx rfl rfl (by omega) g0 ?_
            | refine k_sidx rfl rfl (by omega) g1 ?_
            | refine k_skip rfl ?_
            | refine k_skipU rfl ?_
            | refine k_want rfl ?_
            | refine k_mv rfl ?_
            | refine k_pickT rfl rfl ?_
            | refine k_pickF rfl rfl ?_
            | refine k_notT rfl ?_
            | refine k_notF rfl ?_
            | refine k_add rfl rfl (by omega) ?_
            | refine k_sub rfl rfl (by omega) ?_
            | refine k_mul rfl rfl (by omega) ?_
            | refine k_neg rfl (by omega) ?_
            | refine k_quo rfl rfl (by omega) ?_
            | refine k_rem rfl rfl (by omega) ?_
            | refine k_conv rfl (by omega) ?_
            | refine k_max rfl rfl ?_
            | refine k_min rfl rfl ?_
            | refine k_lssT rfl rfl (by omega) ?_
            | refine k_lssF rfl rfl (by omega) ?_
            | refine k_lss rfl rfl (fun hc => ?_) (fun hc => ?_)
            | refine k_leqT rfl rfl (by omega) ?_
            | refine k_leqF rfl rfl (by omega) ?_
            | refine k_leq rfl rfl (fun hc => ?_) (fun hc => ?_)
            | refine k_gtrT rfl rfl (by omega) ?_
            | refine k_gtrF rfl rfl (by omega) ?_
            | refine k_gtr rfl rfl (fun hc => ?_) (fun hc => ?_)
            | refine k_geqT rfl rfl (by omega) ?_
            | refine k_geqF rfl rfl (by omega) ?_
            | refine k_geq rfl rfl (fun hc => ?_) (fun hc => ?_)
            | refine k_eqlT rfl rfl (by omega) ?_
            | refine k_eqlF rfl rfl (by omega) ?_
            | refine k_eql rfl rfl (fun hc => ?_) (fun hc => ?_)
            | refine k_neqT rfl rfl (by omega) ?_
            | refine k_neqF rfl rfl (by omega) ?_
            | refine k_neq rfl rfl (fun hc => ?_) (fun hc => ?_)
            | refine k_len rfl rfl ?_
            | refine k_ok rfl rfl ?_))
        exact ⟨.inr rfl, rfl, Ext.refl _⟩
      · by_cases h88 : c.toNat = 88
        · have hd48 : d.toNat = 48 := Classical.byContradiction fun h => hk ⟨.inr h88, h⟩
          repeat' (first
            | refine w_seq ?_
            | refine w_seqN ?_
            | refine w_seqX ?_
            | refine w_seqR ?_
            | refine w_blk ?_
            | refine w_blkN ?_
            | refine w_blkX ?_
            | refine w_blkR ?_
            | refine w_skip ?_
            | refine w_ret ?_
            | refine w_exit ?_
            | refine w_ops ?_
            | refine w_opsD ?_
            | refine d_one ?_
            | refine d_nil ?_
            | ((refine i_cond ?_); first | refine w_condT rfl ?_ | refine w_condF rfl ?_)
            | ((refine i_nil ?_); first | refine d_same ?_ | refine d_ord ?_ | refine d_ext ⟨_, rfl⟩ ?_ | refine d_ext (extA _ _ _) ?_ | refine d_ext (by assumption) ?_ | refine w_end0 ?_ | refine w_end1 rfl ?_ | refine w_end2 rfl rfl ?_ | refine w_end3 rfl rfl rfl ?_ | refine w_end4 rfl rfl rfl rfl ?_ | refine w_end5 rfl rfl rfl rfl rfl ?_ | refine w_end6 rfl rfl rfl rfl rfl rfl ?_ | refine w_end7 rfl rfl rfl rfl rfl rfl rfl ?_ | refine w_end8 rfl rfl rfl rfl rfl rfl rfl rfl ?_ | refine w_end9 rfl rfl rfl rfl rfl rfl rfl rfl rfl ?_ | refine w_end10 rfl rfl rfl rfl rfl rfl rfl rfl rfl rfl ?_ | refine w_end11 rfl rfl rfl rfl rfl rfl rfl rfl rfl rfl rfl ?_ | refine w_end12 rfl rfl rfl rfl rfl rfl rfl rfl rfl rfl rfl rfl ?_ | refine w_end13 rfl rfl rfl rfl rfl rfl rfl rfl rfl rfl rfl rfl rfl ?_ | refine w_end14 rfl rfl rfl rfl rfl rfl rfl rfl rfl rfl rfl rfl rfl rfl ?_ | refine w_end15 rfl rfl rfl rfl rfl rfl rfl rfl rfl rfl rfl rfl rfl rfl rfl ?_ | refine w_end16 rfl rfl rfl rfl rfl rfl rfl rfl rfl rfl rfl rfl rfl rfl rfl rfl ?_)
            | ((refine i_cons ?_); first
              | refine k_slen rfl ?_
              | refine k_sidx rfl rfl (by omega) g0 ?_
              | refine k_sidx rfl rfl (by omega) g1 ?_
              | refine k_skip rfl ?_
              | refine k_skipU rfl ?_
              | refine k_want rfl ?_
              | refine k_mv rfl ?_
              | refine k_pickT rfl rfl ?_
              | refine k_pickF rfl rfl ?_
              | refine k_notT rfl ?_
              | refine k_notF rfl ?_
              | refine k_add rfl rfl (by omega) ?_
              | refine k_sub rfl rfl (by omega) ?_
              | refine k_mul rfl rfl (by omega) ?_
              | refine k_neg rfl (by omega) ?_
              | refine k_quo rfl rfl (by omega) ?_
              | refine k_rem rfl rfl (by omega) ?_
              | refine k_conv rfl (by omega) ?_
              | refine k_max rfl rfl ?_
              | refine k_min rfl rfl ?_
              | refine k_lssT rfl rfl (by omega) ?_
              | refine k_lssF rfl rfl (by omega) ?_
              | refine k_lss rfl rfl (fun hc => ?_) (fun hc => ?_)
              | refine k_leqT rfl rfl (by omega) ?_
              | refine k_leqF rfl rfl (by omega) ?_
              | refine k_leq rfl rfl (fun hc => ?_) (fun hc => ?_)
              | refine k_gtrT rfl rfl (by omega) ?_
              | refine k_gtrF rfl rfl (by omega) ?_
              | refine k_gtr rfl rfl (fun hc => ?_) (fun hc => ?_)
              | refine k_geqT rfl rfl (by omega) ?_
              | refine k_geqF rfl rfl (by omega) ?_
              | refine k_geq rfl rfl (fun hc => ?_) (fun hc => ?_)
              | refine k_eqlT rfl rfl (by omega) ?_
              | refine k_eqlF rfl rfl (by omega) ?_
              | refine k_eql rfl rfl (fun hc => ?_) (fun hc => ?_)
              | refine k_neqT rfl rfl (by omega) ?_
              | refine k_neqF rfl rfl (by omega) ?_
              | refine k_neq rfl rfl (fun hc => ?_) (fun hc => ?_)
              | refine k_len rfl rfl ?_
              | refine k_ok rfl rfl ?_))
          exact ⟨.inr rfl, rfl, Ext.refl _⟩
        · repeat' (first
   | refine w_seq ?_
   | refine w_seqN ?_
   | refine w_seqX ?_
   | refine w_seqR ?_
   | refine w_blk ?_
   | refine w_blkN ?_
   | refine w_blkX ?_
   | refine w_blkR ?_
   | refine w_skip ?_
   | refine w_ret ?_
   | refine w_exit ?_
   | refine w_ops ?_
   | refine w_opsD ?_
   | refine d_one ?_
   | refine d_nil ?_
   | ((refine i_cond ?_); first | refine w_condT rfl ?_ | refine w_condF rfl ?_)
   | ((refine i_nil ?_); first | refine d_same ?_ | refine d_ord ?_ | refine d_ext ⟨_, rfl⟩ ?_ | refine d_ext (extA _ _ _) ?_ | refine d_ext (by assumption) ?_ | refine w_end0 ?_ | refine w_end1 rfl ?_ | refine w_end2 rfl rfl ?_ | refine w_end3 rfl rfl rfl ?_ | refine w_end4 rfl rfl rfl rfl ?_ | refine w_end5 rfl rfl rfl rfl rfl ?_ | refine w_end6 rfl rfl rfl rfl rfl rfl ?_ | refine w_end7 rfl rfl rfl rfl rfl rfl rfl ?_ | refine w_end8 rfl rfl rfl rfl rfl rfl rfl rfl ?_ | refine w_end9 rfl rfl rfl rfl rfl rfl rfl rfl rfl ?_ | refine w_end10 rfl rfl rfl rfl rfl rfl rfl rfl rfl rfl ?_ | refine w_end11 rfl rfl rfl rfl rfl rfl rfl rfl rfl rfl rfl ?_ | refine w_end12 rfl rfl rfl rfl rfl rfl rfl rfl rfl rfl rfl rfl ?_ | refine w_end13 rfl rfl rfl rfl rfl rfl rfl rfl rfl rfl rfl rfl rfl ?_ | refine w_end14 rfl rfl rfl rfl rfl rfl rfl rfl rfl rfl rfl rfl rfl rfl ?_ | refine w_end15 rfl rfl rfl rfl rfl rfl rfl rfl rfl rfl rfl rfl rfl rfl rfl ?_ | refine w_end16 rfl rfl rfl rfl rfl rfl rfl rfl rfl rfl rfl rfl rfl rfl rfl rfl ?_)
   | ((refine i_cons ?_); first
     | refine k_slen rfl ?_
     | refine k_sidx rfl rfl (by omega) g0 ?_
     | refine k_sidx rfl rfl (by omega) g1 ?_
     | refine k_skip rfl ?_
     | refine k_skipU rfl ?_
     | refine k_want rfl ?_
     | refine k_mv rfl ?_
     | refine k_pickT rfl rfl ?_
     | refine k_pickF rfl rfl ?_
     | refine k_notT rfl ?_
     | refine k_notF rfl ?_
     | refine k_add rfl rfl (by omega) ?_
     | refine k_sub rfl rfl (by omega) ?_
     | refine k_mul rfl rfl (by omega) ?_
     | refine k_neg rfl (by omega) ?_
     | refine k_quo rfl rfl (by omega) ?_
     | refine k_rem rfl rfl (by omega) ?_
     | refine k_conv rfl (by omega) ?_
     | refine k_max rfl rfl ?_
     | refine k_min rfl rfl ?_
     | refine k_lssT rfl rfl (by omega) ?_
     | refine k_lssF rfl rfl (by omega) ?_
     | refine k_lss rfl rfl (fun hc => ?_) (fun hc => ?_)
     | refine k_leqT rfl rfl (by omega) ?_
     | refine k_leqF rfl rfl (by omega) ?_
     | refine k_leq rfl rfl (fun hc => ?_) (fun hc => ?_)
     | refine k_gtrT rfl rfl (by omega) ?_
     | refine k_gtrF rfl rfl (by omega) ?_
     | refine k_gtr rfl rfl (fun hc => ?_) (fun hc => ?_)
     | refine k_geqT rfl rfl (by omega) ?_
     | refine k_geqF rfl rfl (by omega) ?_
     | refine k_geq rfl rfl (fun hc => ?_) (fun hc => ?_)
     | refine k_eqlT rfl rfl (by omega) ?_
     | refine k_eqlF rfl rfl (by omega) ?_
     | refine k_eql rfl rfl (fun hc => ?_) (fun hc => ?_)
     | refine k_neqT rfl rfl (by omega) ?_
     | refine k_neqF rfl rfl (by omega) ?_
     | refine k_neq rfl rfl (fun hc => ?_) (fun hc => ?_)
     | refine k_len rfl rfl ?_
     | refine k_ok rfl rfl ?_))
          exact ⟨.inr rfl, rfl, Ext.refl _⟩
end Go.Proofs.YtgmfjhmphiiifaaDoor
