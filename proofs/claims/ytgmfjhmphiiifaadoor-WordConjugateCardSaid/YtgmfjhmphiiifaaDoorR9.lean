/- The law WordConjugate, reckoned. -/
import Derived.Test.YtgmfjhmphiiifaaDoorR8
namespace Go.Proofs.YtgmfjhmphiiifaaDoor
open Go.Ab
set_option linter.unusedVariables false
set_option maxRecDepth 20000
attribute [local irreducible] wOps wA wSeq wBlk wRound wOpsD

set_option maxHeartbeats 8000000 in
theorem conjug (h0 : Heap) (a : SV) (xs : List Int) (ha : IsInts h0 a xs) (b : SV) (ys : List Int) (hb : IsInts h0 b ys) (u : Int) (hu : 0 ≤ u ∧ u ≤ 255) :
    ∃ v h', Cal FT HK2 7 [.sc a, .sc b, .sc (.int .u8 u)] h0 v h' ∧ v = .sc (.bool true) := by
  refine Cal.of (F := a7) rfl rfl rfl ?_
  have k1 := call13 (HK := HK2) rfl rfl h0 a xs ha
  have k2 := call13 (HK := HK2) rfl rfl h0 b ys hb
  by_cases hx : Word xs
  · rw [decide_eq_true hx] at k1
    by_cases hy : Word ys
    · rw [decide_eq_true hy] at k2
      have mx := Mid.of hx
      have my := Mid.of hy
      have lx := mx.1
      have ly := my.1
      have hnz : ∀ l ∈ ys, l ≠ 0 := fun l hl => (hy.2 l hl).1
      have hnx : ∀ l ∈ xs, l ≠ 0 := fun l hl => (hx.2 l hl).1
      have mX := ((my.app mx).app my.rn.red).red
      repeat' (first
        | refine w_seq ?_
        | refine w_seqN ?_
        | refine w_seqX ?_
        | refine w_seqR ?_
        | refine w_blk ?_
        | refine w_blkN ?_
        | refine w_blkX ?_
        | refine w_blkR ?_
        | refine w_skip ?_
        | refine w_ret ?_
        | refine w_exit ?_
        | refine w_ops ?_
        | refine w_opsD ?_
        | refine d_one ?_
        | refine d_nil ?_
        | ((refine i_cond ?_); first | refine w_condT rfl ?_ | refine w_condF rfl ?_)
        | ((refine i_nil ?_); first | refine d_same ?_ | refine d_ord ?_ | refine d_ext ⟨_, rfl⟩ ?_ | refine d_ext (by assumption) ?_ | refine w_end0 ?_ | refine w_end1 rfl ?_ | refine w_end2 rfl rfl ?_ | refine w_end3 rfl rfl rfl ?_ | refine w_end4 rfl rfl rfl rfl ?_ | refine w_end5 rfl rfl rfl rfl rfl ?_ | refine w_end6 rfl rfl rfl rfl rfl rfl ?_ | refine w_end7 rfl rfl rfl rfl rfl rfl rfl ?_ | refine w_end8 rfl rfl rfl rfl rfl rfl rfl rfl ?_ | refine w_end9 rfl rfl rfl rfl rfl rfl rfl rfl rfl ?_ | refine w_end10 rfl rfl rfl rfl rfl rfl rfl rfl rfl rfl ?_ | refine w_end11 rfl rfl rfl rfl rfl rfl rfl rfl rfl rfl rfl ?_ | refine w_end12 rfl rfl rfl rfl rfl rfl rfl rfl rfl rfl rfl rfl ?_ | refine w_end13 rfl rfl rfl rfl rfl rfl rfl rfl rfl rfl rfl rfl rfl ?_ | refine w_end14 rfl rfl rfl rfl rfl rfl rfl rfl rfl rfl rfl rfl rfl rfl ?_ | refine w_end15 rfl rfl rfl rfl rfl rfl rfl rfl rfl rfl rfl rfl rfl rfl rfl ?_ | refine w_end16 rfl rfl rfl rfl rfl rfl rfl rfl rfl rfl rfl rfl rfl rfl rfl rfl ?_)
        | ((refine i_cons ?_); first
          | (refine k_call rfl (awake_call2 _) ?_; rintro v h' ⟨rfl, rfl⟩)
          | (refine k_call rfl k1 ?_; rintro v h' ⟨rfl, rfl⟩)
          | (refine k_call rfl k2 ?_; rintro v h' ⟨rfl, rfl⟩)
          | (refine k_call rfl (call21 (HK := HK2) rfl rfl rfl rfl _ a xs ha (mx.mono (by omega))) ?_; rintro v h1 ⟨s7, c, rfl, i7, e1, u7⟩)
          | refine k_skip rfl ?_
          | refine k_want rfl ?_
          | refine k_mv rfl ?_
          | refine k_pickT rfl rfl ?_
          | refine k_pickF rfl rfl ?_
          | refine k_notT rfl ?_
          | refine k_notF rfl ?_
          | refine k_add rfl rfl (by omega) ?_
          | refine k_sub rfl rfl (by omega) ?_
          | refine k_mul rfl rfl (by omega) ?_
          | refine k_neg rfl (by omega) ?_
          | refine k_quo rfl rfl (by omega) ?_
          | refine k_rem rfl rfl (by omega) ?_
          | refine k_conv rfl (by omega) ?_
          | refine k_max rfl rfl ?_
          | refine k_min rfl rfl ?_
          | refine k_lssT rfl rfl (by omega) ?_
          | refine k_lssF rfl rfl (by omega) ?_
          | refine k_lss rfl rfl (fun hc => ?_) (fun hc => ?_)
          | refine k_leqT rfl rfl (by omega) ?_
          | refine k_leqF rfl rfl (by omega) ?_
          | refine k_leq rfl rfl (fun hc => ?_) (fun hc => ?_)
          | refine k_gtrT rfl rfl (by omega) ?_
          | refine k_gtrF rfl rfl (by omega) ?_
          | refine k_gtr rfl rfl (fun hc => ?_) (fun hc => ?_)
          | refine k_geqT rfl rfl (by omega) ?_
          | refine k_geqF rfl rfl (by omega) ?_
          | refine k_geq rfl rfl (fun hc => ?_) (fun hc => ?_)
          | refine k_eqlT rfl rfl (by omega) ?_
          | refine k_eqlF rfl rfl (by omega) ?_
          | refine k_eql rfl rfl (fun hc => ?_) (fun hc => ?_)
          | refine k_neqT rfl rfl (by omega) ?_
          | refine k_neqF rfl rfl (by omega) ?_
          | refine k_neq rfl rfl (fun hc => ?_) (fun hc => ?_)
          | refine k_len rfl rfl ?_
          | refine k_ok rfl rfl ?_))
      have a1 := IsSl.ext ha e1
      have b1 := IsSl.ext hb e1
      repeat' (first
        | refine w_seq ?_
        | refine w_seqN ?_
        | refine w_seqX ?_
        | refine w_seqR ?_
        | refine w_blk ?_
        | refine w_blkN ?_
        | refine w_blkX ?_
        | refine w_blkR ?_
        | refine w_skip ?_
        | refine w_ret ?_
        | refine w_exit ?_
        | refine w_ops ?_
        | refine w_opsD ?_
        | refine d_one ?_
        | refine d_nil ?_
        | ((refine i_cond ?_); first | refine w_condT rfl ?_ | refine w_condF rfl ?_)
        | ((refine i_nil ?_); first | refine d_same ?_ | refine d_ord ?_ | refine d_ext ⟨_, rfl⟩ ?_ | refine d_ext (by assumption) ?_ | refine w_end0 ?_ | refine w_end1 rfl ?_ | refine w_end2 rfl rfl ?_ | refine w_end3 rfl rfl rfl ?_ | refine w_end4 rfl rfl rfl rfl ?_ | refine w_end5 rfl rfl rfl rfl rfl ?_ | refine w_end6 rfl rfl rfl rfl rfl rfl ?_ | refine w_end7 rfl rfl rfl rfl rfl rfl rfl ?_ | refine w_end8 rfl rfl rfl rfl rfl rfl rfl rfl ?_ | refine w_end9 rfl rfl rfl rfl rfl rfl rfl rfl rfl ?_ | refine w_end10 rfl rfl rfl rfl rfl rfl rfl rfl rfl rfl ?_ | refine w_end11 rfl rfl rfl rfl rfl rfl rfl rfl rfl rfl rfl ?_ | refine w_end12 rfl rfl rfl rfl rfl rfl rfl rfl rfl rfl rfl rfl ?_ | refine w_end13 rfl rfl rfl rfl rfl rfl rfl rfl rfl rfl rfl rfl rfl ?_ | refine w_end14 rfl rfl rfl rfl rfl rfl rfl rfl rfl rfl rfl rfl rfl rfl ?_ | refine w_end15 rfl rfl rfl rfl rfl rfl rfl rfl rfl rfl rfl rfl rfl rfl rfl ?_ | refine w_end16 rfl rfl rfl rfl rfl rfl rfl rfl rfl rfl rfl rfl rfl rfl rfl rfl ?_)
        | ((refine i_cons ?_); first
          | (refine k_call rfl (invC b1 (my.mono (by omega)) rfl) ?_; rintro v h2 ⟨s5, rfl, i5, e2⟩)
          | refine k_skip rfl ?_
          | refine k_want rfl ?_
          | refine k_mv rfl ?_
          | refine k_pickT rfl rfl ?_
          | refine k_pickF rfl rfl ?_
          | refine k_notT rfl ?_
          | refine k_notF rfl ?_
          | refine k_add rfl rfl (by omega) ?_
          | refine k_sub rfl rfl (by omega) ?_
          | refine k_mul rfl rfl (by omega) ?_
          | refine k_neg rfl (by omega) ?_
          | refine k_quo rfl rfl (by omega) ?_
          | refine k_rem rfl rfl (by omega) ?_
          | refine k_conv rfl (by omega) ?_
          | refine k_max rfl rfl ?_
          | refine k_min rfl rfl ?_
          | refine k_lssT rfl rfl (by omega) ?_
          | refine k_lssF rfl rfl (by omega) ?_
          | refine k_lss rfl rfl (fun hc => ?_) (fun hc => ?_)
          | refine k_leqT rfl rfl (by omega) ?_
          | refine k_leqF rfl rfl (by omega) ?_
          | refine k_leq rfl rfl (fun hc => ?_) (fun hc => ?_)
          | refine k_gtrT rfl rfl (by omega) ?_
          | refine k_gtrF rfl rfl (by omega) ?_
          | refine k_gtr rfl rfl (fun hc => ?_) (fun hc => ?_)
          | refine k_geqT rfl rfl (by omega) ?_
          | refine k_geqF rfl rfl (by omega) ?_
          | refine k_geq rfl rfl (fun hc => ?_) (fun hc => ?_)
          | refine k_eqlT rfl rfl (by omega) ?_
          | refine k_eqlF rfl rfl (by omega) ?_
          | refine k_eql rfl rfl (fun hc => ?_) (fun hc => ?_)
          | refine k_neqT rfl rfl (by omega) ?_
          | refine k_neqF rfl rfl (by omega) ?_
          | refine k_neq rfl rfl (fun hc => ?_) (fun hc => ?_)
          | refine k_len rfl rfl ?_
          | refine k_ok rfl rfl ?_))
      have a2 := IsSl.ext a1 e2
      have b2 := IsSl.ext b1 e2
      have c2 := IsSl.ext i7 e2
      repeat' (first
        | refine w_seq ?_
        | refine w_seqN ?_
        | refine w_seqX ?_
        | refine w_seqR ?_
        | refine w_blk ?_
        | refine w_blkN ?_
        | refine w_blkX ?_
        | refine w_blkR ?_
        | refine w_skip ?_
        | refine w_ret ?_
        | refine w_exit ?_
        | refine w_ops ?_
        | refine w_opsD ?_
        | refine d_one ?_
        | refine d_nil ?_
        | ((refine i_cond ?_); first | refine w_condT rfl ?_ | refine w_condF rfl ?_)
        | ((refine i_nil ?_); first | refine d_same ?_ | refine d_ord ?_ | refine d_ext ⟨_, rfl⟩ ?_ | refine d_ext (by assumption) ?_ | refine w_end0 ?_ | refine w_end1 rfl ?_ | refine w_end2 rfl rfl ?_ | refine w_end3 rfl rfl rfl ?_ | refine w_end4 rfl rfl rfl rfl ?_ | refine w_end5 rfl rfl rfl rfl rfl ?_ | refine w_end6 rfl rfl rfl rfl rfl rfl ?_ | refine w_end7 rfl rfl rfl rfl rfl rfl rfl ?_ | refine w_end8 rfl rfl rfl rfl rfl rfl rfl rfl ?_ | refine w_end9 rfl rfl rfl rfl rfl rfl rfl rfl rfl ?_ | refine w_end10 rfl rfl rfl rfl rfl rfl rfl rfl rfl rfl ?_ | refine w_end11 rfl rfl rfl rfl rfl rfl rfl rfl rfl rfl rfl ?_ | refine w_end12 rfl rfl rfl rfl rfl rfl rfl rfl rfl rfl rfl rfl ?_ | refine w_end13 rfl rfl rfl rfl rfl rfl rfl rfl rfl rfl rfl rfl rfl ?_ | refine w_end14 rfl rfl rfl rfl rfl rfl rfl rfl rfl rfl rfl rfl rfl rfl ?_ | refine w_end15 rfl rfl rfl rfl rfl rfl rfl rfl rfl rfl rfl rfl rfl rfl rfl ?_ | refine w_end16 rfl rfl rfl rfl rfl rfl rfl rfl rfl rfl rfl rfl rfl rfl rfl rfl ?_)
        | ((refine i_cons ?_); first
          | (refine k_call rfl (mul3 b2 a2 i5 (my.mono (by omega)) (mx.mono (by omega)) (my.rn.red.mono (by omega)) rfl) ?_; rintro v h3 ⟨s8, rfl, i8, e3⟩)
          | refine k_skip rfl ?_
          | refine k_want rfl ?_
          | refine k_mv rfl ?_
          | refine k_pickT rfl rfl ?_
          | refine k_pickF rfl rfl ?_
          | refine k_notT rfl ?_
          | refine k_notF rfl ?_
          | refine k_add rfl rfl (by omega) ?_
          | refine k_sub rfl rfl (by omega) ?_
          | refine k_mul rfl rfl (by omega) ?_
          | refine k_neg rfl (by omega) ?_
          | refine k_quo rfl rfl (by omega) ?_
          | refine k_rem rfl rfl (by omega) ?_
          | refine k_conv rfl (by omega) ?_
          | refine k_max rfl rfl ?_
          | refine k_min rfl rfl ?_
          | refine k_lssT rfl rfl (by omega) ?_
          | refine k_lssF rfl rfl (by omega) ?_
          | refine k_lss rfl rfl (fun hc => ?_) (fun hc => ?_)
          | refine k_leqT rfl rfl (by omega) ?_
          | refine k_leqF rfl rfl (by omega) ?_
          | refine k_leq rfl rfl (fun hc => ?_) (fun hc => ?_)
          | refine k_gtrT rfl rfl (by omega) ?_
          | refine k_gtrF rfl rfl (by omega) ?_
          | refine k_gtr rfl rfl (fun hc => ?_) (fun hc => ?_)
          | refine k_geqT rfl rfl (by omega) ?_
          | refine k_geqF rfl rfl (by omega) ?_
          | refine k_geq rfl rfl (fun hc => ?_) (fun hc => ?_)
          | refine k_eqlT rfl rfl (by omega) ?_
          | refine k_eqlF rfl rfl (by omega) ?_
          | refine k_eql rfl rfl (fun hc => ?_) (fun hc => ?_)
          | refine k_neqT rfl rfl (by omega) ?_
          | refine k_neqF rfl rfl (by omega) ?_
          | refine k_neq rfl rfl (fun hc => ?_) (fun hc => ?_)
          | refine k_len rfl rfl ?_
          | refine k_ok rfl rfl ?_))
      have a3 := IsSl.ext a2 e3
      have b3 := IsSl.ext b2 e3
      have c3 := IsSl.ext c2 e3
      obtain ⟨f1, f2, f3, f4⟩ := u7.form
      have hcl := f4.len
      have ccm := core_mem _ (red xs) (Nat.le_refl _)
      have lrx := mx.red.1
      have hln := IsSl.len c3
      have mc : Mid 60 c := ⟨by omega, fun x hx => by
        obtain ⟨p, q, g1, g2⟩ := f4
        refine mx.red.2 x (ccm.2 x ?_)
        rw [g1]
        rw [g2] at hx
        simp at hx ⊢
        exact hx.symm⟩
      have hcX := conj_by (w := xs) hnz
      by_cases h2 : 2 ≤ c.length
      · obtain ⟨p, hp⟩ : ∃ p, c[0]? = some p := ⟨_, List.getElem?_eq_getElem (by omega)⟩
        obtain ⟨q, hq⟩ : ∃ q, c[c.length - 1]? = some q := ⟨_, List.getElem?_eq_getElem (by omega)⟩
        have hne : ¬ p = -q := fun e => f2 ⟨h2, by rw [hp, hq]; exact e⟩
        have hqr := mc.2 q (List.mem_of_getElem? hq)
        obtain ⟨id, off, cap, rfl, r1⟩ := IsInts.at c3 hp
        obtain ⟨id2, off2, cap2, he2, r2⟩ := IsInts.at c3 hq
        obtain ⟨rfl, rfl, -, rfl⟩ := SV.slc.inj he2
        have hj : ((c.length : Int) - 1).toNat = c.length - 1 := by omega
        rw [← hj] at r2
        repeat' (first
          | refine w_seq ?_
          | refine w_seqN ?_
          | refine w_seqX ?_
          | refine w_seqR ?_
          | refine w_blk ?_
          | refine w_blkN ?_
          | refine w_blkX ?_
          | refine w_blkR ?_
          | refine w_skip ?_
          | refine w_ret ?_
          | refine w_exit ?_
          | refine w_ops ?_
          | refine w_opsD ?_
          | refine d_one ?_
          | refine d_nil ?_
          | ((refine i_cond ?_); first | refine w_condT rfl ?_ | refine w_condF rfl ?_)
          | ((refine i_nil ?_); first | refine d_same ?_ | refine d_ord ?_ | refine d_ext ⟨_, rfl⟩ ?_ | refine d_ext (by assumption) ?_ | refine w_end0 ?_ | refine w_end1 rfl ?_ | refine w_end2 rfl rfl ?_ | refine w_end3 rfl rfl rfl ?_ | refine w_end4 rfl rfl rfl rfl ?_ | refine w_end5 rfl rfl rfl rfl rfl ?_ | refine w_end6 rfl rfl rfl rfl rfl rfl ?_ | refine w_end7 rfl rfl rfl rfl rfl rfl rfl ?_ | refine w_end8 rfl rfl rfl rfl rfl rfl rfl rfl ?_ | refine w_end9 rfl rfl rfl rfl rfl rfl rfl rfl rfl ?_ | refine w_end10 rfl rfl rfl rfl rfl rfl rfl rfl rfl rfl ?_ | refine w_end11 rfl rfl rfl rfl rfl rfl rfl rfl rfl rfl rfl ?_ | refine w_end12 rfl rfl rfl rfl rfl rfl rfl rfl rfl rfl rfl rfl ?_ | refine w_end13 rfl rfl rfl rfl rfl rfl rfl rfl rfl rfl rfl rfl rfl ?_ | refine w_end14 rfl rfl rfl rfl rfl rfl rfl rfl rfl rfl rfl rfl rfl rfl ?_ | refine w_end15 rfl rfl rfl rfl rfl rfl rfl rfl rfl rfl rfl rfl rfl rfl rfl ?_ | refine w_end16 rfl rfl rfl rfl rfl rfl rfl rfl rfl rfl rfl rfl rfl rfl rfl rfl ?_)
          | ((refine i_cons ?_); first
            | refine k_len rfl hln ?_
            | refine k_idxA rfl rfl (by omega) ?_
            | refine k_ld rfl r1 ?_
            | refine k_ld rfl r2 ?_
            | (refine k_call rfl (redC c3 (mc.mono (by omega))) ?_; rintro v h4 ⟨s9, rfl, i9, e4⟩)
            | refine k_skip rfl ?_
            | refine k_want rfl ?_
            | refine k_mv rfl ?_
            | refine k_pickT rfl rfl ?_
            | refine k_pickF rfl rfl ?_
            | refine k_notT rfl ?_
            | refine k_notF rfl ?_
            | refine k_add rfl rfl (by omega) ?_
            | refine k_sub rfl rfl (by omega) ?_
            | refine k_mul rfl rfl (by omega) ?_
            | refine k_neg rfl (by omega) ?_
            | refine k_quo rfl rfl (by omega) ?_
            | refine k_rem rfl rfl (by omega) ?_
            | refine k_conv rfl (by omega) ?_
            | refine k_max rfl rfl ?_
            | refine k_min rfl rfl ?_
            | refine k_lssT rfl rfl (by omega) ?_
            | refine k_lssF rfl rfl (by omega) ?_
            | refine k_lss rfl rfl (fun hc => ?_) (fun hc => ?_)
            | refine k_leqT rfl rfl (by omega) ?_
            | refine k_leqF rfl rfl (by omega) ?_
            | refine k_leq rfl rfl (fun hc => ?_) (fun hc => ?_)
            | refine k_gtrT rfl rfl (by omega) ?_
            | refine k_gtrF rfl rfl (by omega) ?_
            | refine k_gtr rfl rfl (fun hc => ?_) (fun hc => ?_)
            | refine k_geqT rfl rfl (by omega) ?_
            | refine k_geqF rfl rfl (by omega) ?_
            | refine k_geq rfl rfl (fun hc => ?_) (fun hc => ?_)
            | refine k_eqlT rfl rfl (by omega) ?_
            | refine k_eqlF rfl rfl (by omega) ?_
            | refine k_eql rfl rfl (fun hc => ?_) (fun hc => ?_)
            | refine k_neqT rfl rfl (by omega) ?_
            | refine k_neqF rfl rfl (by omega) ?_
            | refine k_neq rfl rfl (fun hc => ?_) (fun hc => ?_)
            | refine k_len rfl rfl ?_
            | refine k_ok rfl rfl ?_))
        all_goals first
          | (exfalso; omega)
          | skip
        rw [f1] at i9
        repeat' (first
          | refine w_seq ?_
          | refine w_seqN ?_
          | refine w_seqX ?_
          | refine w_seqR ?_
          | refine w_blk ?_
          | refine w_blkN ?_
          | refine w_blkX ?_
          | refine w_blkR ?_
          | refine w_skip ?_
          | refine w_ret ?_
          | refine w_exit ?_
          | refine w_ops ?_
          | refine w_opsD ?_
          | refine d_one ?_
          | refine d_nil ?_
          | ((refine i_cond ?_); first | refine w_condT rfl ?_ | refine w_condF rfl ?_)
          | ((refine i_nil ?_); first | refine d_same ?_ | refine d_ord ?_ | refine d_ext ⟨_, rfl⟩ ?_ | refine d_ext (by assumption) ?_ | refine w_end0 ?_ | refine w_end1 rfl ?_ | refine w_end2 rfl rfl ?_ | refine w_end3 rfl rfl rfl ?_ | refine w_end4 rfl rfl rfl rfl ?_ | refine w_end5 rfl rfl rfl rfl rfl ?_ | refine w_end6 rfl rfl rfl rfl rfl rfl ?_ | refine w_end7 rfl rfl rfl rfl rfl rfl rfl ?_ | refine w_end8 rfl rfl rfl rfl rfl rfl rfl rfl ?_ | refine w_end9 rfl rfl rfl rfl rfl rfl rfl rfl rfl ?_ | refine w_end10 rfl rfl rfl rfl rfl rfl rfl rfl rfl rfl ?_ | refine w_end11 rfl rfl rfl rfl rfl rfl rfl rfl rfl rfl rfl ?_ | refine w_end12 rfl rfl rfl rfl rfl rfl rfl rfl rfl rfl rfl rfl ?_ | refine w_end13 rfl rfl rfl rfl rfl rfl rfl rfl rfl rfl rfl rfl rfl ?_ | refine w_end14 rfl rfl rfl rfl rfl rfl rfl rfl rfl rfl rfl rfl rfl rfl ?_ | refine w_end15 rfl rfl rfl rfl rfl rfl rfl rfl rfl rfl rfl rfl rfl rfl rfl ?_ | refine w_end16 rfl rfl rfl rfl rfl rfl rfl rfl rfl rfl rfl rfl rfl rfl rfl rfl ?_)
          | ((refine i_cons ?_); first
            | (refine k_call rfl (sameC i9 (IsSl.ext c3 e4) (by omega)) ?_; rintro v h' ⟨rfl, rfl⟩)
            | (refine k_call rfl (call24T (IsSl.ext a3 e4) (IsSl.ext i8 e4) (mx.mono (by omega)) (mX.mono (by omega)) hcX) ?_; rintro v h5 ⟨rfl, e5⟩)
            | refine k_skip rfl ?_
            | refine k_want rfl ?_
            | refine k_mv rfl ?_
            | refine k_pickT rfl rfl ?_
            | refine k_pickF rfl rfl ?_
            | refine k_notT rfl ?_
            | refine k_notF rfl ?_
            | refine k_add rfl rfl (by omega) ?_
            | refine k_sub rfl rfl (by omega) ?_
            | refine k_mul rfl rfl (by omega) ?_
            | refine k_neg rfl (by omega) ?_
            | refine k_quo rfl rfl (by omega) ?_
            | refine k_rem rfl rfl (by omega) ?_
            | refine k_conv rfl (by omega) ?_
            | refine k_max rfl rfl ?_
            | refine k_min rfl rfl ?_
            | refine k_lssT rfl rfl (by omega) ?_
            | refine k_lssF rfl rfl (by omega) ?_
            | refine k_lss rfl rfl (fun hc => ?_) (fun hc => ?_)
            | refine k_leqT rfl rfl (by omega) ?_
            | refine k_leqF rfl rfl (by omega) ?_
            | refine k_leq rfl rfl (fun hc => ?_) (fun hc => ?_)
            | refine k_gtrT rfl rfl (by omega) ?_
            | refine k_gtrF rfl rfl (by omega) ?_
            | refine k_gtr rfl rfl (fun hc => ?_) (fun hc => ?_)
            | refine k_geqT rfl rfl (by omega) ?_
            | refine k_geqF rfl rfl (by omega) ?_
            | refine k_geq rfl rfl (fun hc => ?_) (fun hc => ?_)
            | refine k_eqlT rfl rfl (by omega) ?_
            | refine k_eqlF rfl rfl (by omega) ?_
            | refine k_eql rfl rfl (fun hc => ?_) (fun hc => ?_)
            | refine k_neqT rfl rfl (by omega) ?_
            | refine k_neqF rfl rfl (by omega) ?_
            | refine k_neq rfl rfl (fun hc => ?_) (fun hc => ?_)
            | refine k_len rfl rfl ?_
            | refine k_ok rfl rfl ?_))
        have x5 := IsSl.ext (IsSl.ext i8 e4) e5
        have c5 := IsSl.ext (IsSl.ext c3 e4) e5
        have a5 := IsSl.ext (IsSl.ext a3 e4) e5
        have b5 := IsSl.ext (IsSl.ext b3 e4) e5
        repeat' (first
          | refine w_seq ?_
          | refine w_seqN ?_
          | refine w_seqX ?_
          | refine w_seqR ?_
          | refine w_blk ?_
          | refine w_blkN ?_
          | refine w_blkX ?_
          | refine w_blkR ?_
          | refine w_skip ?_
          | refine w_ret ?_
          | refine w_exit ?_
          | refine w_ops ?_
          | refine w_opsD ?_
          | refine d_one ?_
          | refine d_nil ?_
          | ((refine i_cond ?_); first | refine w_condT rfl ?_ | refine w_condF rfl ?_)
          | ((refine i_nil ?_); first | refine d_same ?_ | refine d_ord ?_ | refine d_ext ⟨_, rfl⟩ ?_ | refine d_ext (by assumption) ?_ | refine w_end0 ?_ | refine w_end1 rfl ?_ | refine w_end2 rfl rfl ?_ | refine w_end3 rfl rfl rfl ?_ | refine w_end4 rfl rfl rfl rfl ?_ | refine w_end5 rfl rfl rfl rfl rfl ?_ | refine w_end6 rfl rfl rfl rfl rfl rfl ?_ | refine w_end7 rfl rfl rfl rfl rfl rfl rfl ?_ | refine w_end8 rfl rfl rfl rfl rfl rfl rfl rfl ?_ | refine w_end9 rfl rfl rfl rfl rfl rfl rfl rfl rfl ?_ | refine w_end10 rfl rfl rfl rfl rfl rfl rfl rfl rfl rfl ?_ | refine w_end11 rfl rfl rfl rfl rfl rfl rfl rfl rfl rfl rfl ?_ | refine w_end12 rfl rfl rfl rfl rfl rfl rfl rfl rfl rfl rfl rfl ?_ | refine w_end13 rfl rfl rfl rfl rfl rfl rfl rfl rfl rfl rfl rfl rfl ?_ | refine w_end14 rfl rfl rfl rfl rfl rfl rfl rfl rfl rfl rfl rfl rfl rfl ?_ | refine w_end15 rfl rfl rfl rfl rfl rfl rfl rfl rfl rfl rfl rfl rfl rfl rfl ?_ | refine w_end16 rfl rfl rfl rfl rfl rfl rfl rfl rfl rfl rfl rfl rfl rfl rfl rfl ?_)
          | ((refine i_cons ?_); first
            | (refine k_call rfl (call21 (HK := HK2) rfl rfl rfl rfl _ s8 _ x5 (mX.mono (by omega))) ?_; rintro v h6 ⟨s10, r6, rfl, i10, e6, u10⟩)
            | refine k_skip rfl ?_
            | refine k_want rfl ?_
            | refine k_mv rfl ?_
            | refine k_pickT rfl rfl ?_
            | refine k_pickF rfl rfl ?_
            | refine k_notT rfl ?_
            | refine k_notF rfl ?_
            | refine k_add rfl rfl (by omega) ?_
            | refine k_sub rfl rfl (by omega) ?_
            | refine k_mul rfl rfl (by omega) ?_
            | refine k_neg rfl (by omega) ?_
            | refine k_quo rfl rfl (by omega) ?_
            | refine k_rem rfl rfl (by omega) ?_
            | refine k_conv rfl (by omega) ?_
            | refine k_max rfl rfl ?_
            | refine k_min rfl rfl ?_
            | refine k_lssT rfl rfl (by omega) ?_
            | refine k_lssF rfl rfl (by omega) ?_
            | refine k_lss rfl rfl (fun hc => ?_) (fun hc => ?_)
            | refine k_leqT rfl rfl (by omega) ?_
            | refine k_leqF rfl rfl (by omega) ?_
            | refine k_leq rfl rfl (fun hc => ?_) (fun hc => ?_)
            | refine k_gtrT rfl rfl (by omega) ?_
            | refine k_gtrF rfl rfl (by omega) ?_
            | refine k_gtr rfl rfl (fun hc => ?_) (fun hc => ?_)
            | refine k_geqT rfl rfl (by omega) ?_
            | refine k_geqF rfl rfl (by omega) ?_
            | refine k_geq rfl rfl (fun hc => ?_) (fun hc => ?_)
            | refine k_eqlT rfl rfl (by omega) ?_
            | refine k_eqlF rfl rfl (by omega) ?_
            | refine k_eql rfl rfl (fun hc => ?_) (fun hc => ?_)
            | refine k_neqT rfl rfl (by omega) ?_
            | refine k_neqF rfl rfl (by omega) ?_
            | refine k_neq rfl rfl (fun hc => ?_) (fun hc => ?_)
            | refine k_len rfl rfl ?_
            | refine k_ok rfl rfl ?_))
        obtain rfl : r6 = c := by
          obtain ⟨r, g1, g2⟩ := hcX
          rw [u7.uniq g1, u10.uniq g2]
        repeat' (first
          | refine w_seq ?_
          | refine w_seqN ?_
          | refine w_seqX ?_
          | refine w_seqR ?_
          | refine w_blk ?_
          | refine w_blkN ?_
          | refine w_blkX ?_
          | refine w_blkR ?_
          | refine w_skip ?_
          | refine w_ret ?_
          | refine w_exit ?_
          | refine w_ops ?_
          | refine w_opsD ?_
          | refine d_one ?_
          | refine d_nil ?_
          | ((refine i_cond ?_); first | refine w_condT rfl ?_ | refine w_condF rfl ?_)
          | ((refine i_nil ?_); first | refine d_same ?_ | refine d_ord ?_ | refine d_ext ⟨_, rfl⟩ ?_ | refine d_ext (by assumption) ?_ | refine w_end0 ?_ | refine w_end1 rfl ?_ | refine w_end2 rfl rfl ?_ | refine w_end3 rfl rfl rfl ?_ | refine w_end4 rfl rfl rfl rfl ?_ | refine w_end5 rfl rfl rfl rfl rfl ?_ | refine w_end6 rfl rfl rfl rfl rfl rfl ?_ | refine w_end7 rfl rfl rfl rfl rfl rfl rfl ?_ | refine w_end8 rfl rfl rfl rfl rfl rfl rfl rfl ?_ | refine w_end9 rfl rfl rfl rfl rfl rfl rfl rfl rfl ?_ | refine w_end10 rfl rfl rfl rfl rfl rfl rfl rfl rfl rfl ?_ | refine w_end11 rfl rfl rfl rfl rfl rfl rfl rfl rfl rfl rfl ?_ | refine w_end12 rfl rfl rfl rfl rfl rfl rfl rfl rfl rfl rfl rfl ?_ | refine w_end13 rfl rfl rfl rfl rfl rfl rfl rfl rfl rfl rfl rfl rfl ?_ | refine w_end14 rfl rfl rfl rfl rfl rfl rfl rfl rfl rfl rfl rfl rfl rfl ?_ | refine w_end15 rfl rfl rfl rfl rfl rfl rfl rfl rfl rfl rfl rfl rfl rfl rfl ?_ | refine w_end16 rfl rfl rfl rfl rfl rfl rfl rfl rfl rfl rfl rfl rfl rfl rfl rfl ?_)
          | ((refine i_cons ?_); first
            | (refine k_call rfl (sameC i10 (IsSl.ext c5 e6) (by omega)) ?_; rintro v h' ⟨rfl, rfl⟩)
            | (refine k_call rfl (call24T (IsSl.ext c5 e6) (IsSl.ext a5 e6) (mc.mono (by omega)) (mx.mono (by omega)) (conj_form u7)) ?_; rintro v h7 ⟨rfl, e7⟩)
            | refine k_skip rfl ?_
            | refine k_want rfl ?_
            | refine k_mv rfl ?_
            | refine k_pickT rfl rfl ?_
            | refine k_pickF rfl rfl ?_
            | refine k_notT rfl ?_
            | refine k_notF rfl ?_
            | refine k_add rfl rfl (by omega) ?_
            | refine k_sub rfl rfl (by omega) ?_
            | refine k_mul rfl rfl (by omega) ?_
            | refine k_neg rfl (by omega) ?_
            | refine k_quo rfl rfl (by omega) ?_
            | refine k_rem rfl rfl (by omega) ?_
            | refine k_conv rfl (by omega) ?_
            | refine k_max rfl rfl ?_
            | refine k_min rfl rfl ?_
            | refine k_lssT rfl rfl (by omega) ?_
            | refine k_lssF rfl rfl (by omega) ?_
            | refine k_lss rfl rfl (fun hc => ?_) (fun hc => ?_)
            | refine k_leqT rfl rfl (by omega) ?_
            | refine k_leqF rfl rfl (by omega) ?_
            | refine k_leq rfl rfl (fun hc => ?_) (fun hc => ?_)
            | refine k_gtrT rfl rfl (by omega) ?_
            | refine k_gtrF rfl rfl (by omega) ?_
            | refine k_gtr rfl rfl (fun hc => ?_) (fun hc => ?_)
            | refine k_geqT rfl rfl (by omega) ?_
            | refine k_geqF rfl rfl (by omega) ?_
            | refine k_geq rfl rfl (fun hc => ?_) (fun hc => ?_)
            | refine k_eqlT rfl rfl (by omega) ?_
            | refine k_eqlF rfl rfl (by omega) ?_
            | refine k_eql rfl rfl (fun hc => ?_) (fun hc => ?_)
            | refine k_neqT rfl rfl (by omega) ?_
            | refine k_neqF rfl rfl (by omega) ?_
            | refine k_neq rfl rfl (fun hc => ?_) (fun hc => ?_)
            | refine k_len rfl rfl ?_
            | refine k_ok rfl rfl ?_))
        have a7 := IsSl.ext (IsSl.ext a5 e6) e7
        have b7 := IsSl.ext (IsSl.ext b5 e6) e7
        have hla := IsSl.len a7
        have hrem : 0 < xs.length → (0 : Int) ≤ u % (xs.length : Int) ∧ u % (xs.length : Int) < xs.length := fun h => ⟨Int.emod_nonneg _ (by omega), Int.emod_lt_of_pos _ (by omega)⟩
        by_cases h0x : 0 < xs.length
        · have hrem2 := hrem h0x
          repeat' (first
            | refine w_seq ?_
            | refine w_seqN ?_
            | refine w_seqX ?_
            | refine w_seqR ?_
            | refine w_blk ?_
            | refine w_blkN ?_
            | refine w_blkX ?_
            | refine w_blkR ?_
            | refine w_skip ?_
            | refine w_ret ?_
            | refine w_exit ?_
            | refine w_ops ?_
            | refine w_opsD ?_
            | refine d_one ?_
            | refine d_nil ?_
            | ((refine i_cond ?_); first | refine w_condT rfl ?_ | refine w_condF rfl ?_)
            | ((refine i_nil ?_); first | refine d_same ?_ | refine d_ord ?_ | refine d_ext ⟨_, rfl⟩ ?_ | refine d_ext (by assumption) ?_ | refine w_end0 ?_ | refine w_end1 rfl ?_ | refine w_end2 rfl rfl ?_ | refine w_end3 rfl rfl rfl ?_ | refine w_end4 rfl rfl rfl rfl ?_ | refine w_end5 rfl rfl rfl rfl rfl ?_ | refine w_end6 rfl rfl rfl rfl rfl rfl ?_ | refine w_end7 rfl rfl rfl rfl rfl rfl rfl ?_ | refine w_end8 rfl rfl rfl rfl rfl rfl rfl rfl ?_ | refine w_end9 rfl rfl rfl rfl rfl rfl rfl rfl rfl ?_ | refine w_end10 rfl rfl rfl rfl rfl rfl rfl rfl rfl rfl ?_ | refine w_end11 rfl rfl rfl rfl rfl rfl rfl rfl rfl rfl rfl ?_ | refine w_end12 rfl rfl rfl rfl rfl rfl rfl rfl rfl rfl rfl rfl ?_ | refine w_end13 rfl rfl rfl rfl rfl rfl rfl rfl rfl rfl rfl rfl rfl ?_ | refine w_end14 rfl rfl rfl rfl rfl rfl rfl rfl rfl rfl rfl rfl rfl rfl ?_ | refine w_end15 rfl rfl rfl rfl rfl rfl rfl rfl rfl rfl rfl rfl rfl rfl rfl ?_ | refine w_end16 rfl rfl rfl rfl rfl rfl rfl rfl rfl rfl rfl rfl rfl rfl rfl rfl ?_)
            | ((refine i_cons ?_); first
              | refine k_len rfl hla ?_
              | refine k_skip rfl ?_
              | refine k_want rfl ?_
              | refine k_mv rfl ?_
              | refine k_pickT rfl rfl ?_
              | refine k_pickF rfl rfl ?_
              | refine k_notT rfl ?_
              | refine k_notF rfl ?_
              | refine k_add rfl rfl (by omega) ?_
              | refine k_sub rfl rfl (by omega) ?_
              | refine k_mul rfl rfl (by omega) ?_
              | refine k_neg rfl (by omega) ?_
              | refine k_quo rfl rfl (by omega) ?_
              | refine k_rem rfl rfl (by omega) ?_
              | refine k_conv rfl (by omega) ?_
              | refine k_max rfl rfl ?_
              | refine k_min rfl rfl ?_
              | refine k_lssT rfl rfl (by omega) ?_
              | refine k_lssF rfl rfl (by omega) ?_
              | refine k_lss rfl rfl (fun hc => ?_) (fun hc => ?_)
              | refine k_leqT rfl rfl (by omega) ?_
              | refine k_leqF rfl rfl (by omega) ?_
              | refine k_leq rfl rfl (fun hc => ?_) (fun hc => ?_)
              | refine k_gtrT rfl rfl (by omega) ?_
              | refine k_gtrF rfl rfl (by omega) ?_
              | refine k_gtr rfl rfl (fun hc => ?_) (fun hc => ?_)
              | refine k_geqT rfl rfl (by omega) ?_
              | refine k_geqF rfl rfl (by omega) ?_
              | refine k_geq rfl rfl (fun hc => ?_) (fun hc => ?_)
              | refine k_eqlT rfl rfl (by omega) ?_
              | refine k_eqlF rfl rfl (by omega) ?_
              | refine k_eql rfl rfl (fun hc => ?_) (fun hc => ?_)
              | refine k_neqT rfl rfl (by omega) ?_
              | refine k_neqF rfl rfl (by omega) ?_
              | refine k_neq rfl rfl (fun hc => ?_) (fun hc => ?_)
              | refine k_len rfl rfl ?_
              | refine k_ok rfl rfl ?_))
          obtain ⟨k, hkk⟩ : ∃ k : Nat, u % (xs.length : Int) = k := ⟨_, (Int.toNat_of_nonneg hrem2.1).symm⟩
          rw [hkk] at hrem2 ⊢
          have f7 : Ext h7 (h7 ++ [Blk.cells (rep [SV.int .i64 0] 0) true 1]) := ⟨_, rfl⟩
          obtain ⟨p1, hp1, hp2, -⟩ := IsInts.part (l := k) (u := xs.length) (IsSl.ext a7 f7) (by omega) (by omega)
          have hbd : ∀ n : Nat, n ≤ 1000 → n * (8 + 1) ≤ bigN := fun n hn => by simp [bigN]; omega
          repeat' (first
            | refine w_seq ?_
            | refine w_seqN ?_
            | refine w_seqX ?_
            | refine w_seqR ?_
            | refine w_blk ?_
            | refine w_blkN ?_
            | refine w_blkX ?_
            | refine w_blkR ?_
            | refine w_skip ?_
            | refine w_ret ?_
            | refine w_exit ?_
            | refine w_ops ?_
            | refine w_opsD ?_
            | refine d_one ?_
            | refine d_nil ?_
            | ((refine i_cond ?_); first | refine w_condT rfl ?_ | refine w_condF rfl ?_)
            | ((refine i_nil ?_); first | refine d_same ?_ | refine d_ord ?_ | refine d_ext ⟨_, rfl⟩ ?_ | refine d_ext (by assumption) ?_ | refine w_end0 ?_ | refine w_end1 rfl ?_ | refine w_end2 rfl rfl ?_ | refine w_end3 rfl rfl rfl ?_ | refine w_end4 rfl rfl rfl rfl ?_ | refine w_end5 rfl rfl rfl rfl rfl ?_ | refine w_end6 rfl rfl rfl rfl rfl rfl ?_ | refine w_end7 rfl rfl rfl rfl rfl rfl rfl ?_ | refine w_end8 rfl rfl rfl rfl rfl rfl rfl rfl ?_ | refine w_end9 rfl rfl rfl rfl rfl rfl rfl rfl rfl ?_ | refine w_end10 rfl rfl rfl rfl rfl rfl rfl rfl rfl rfl ?_ | refine w_end11 rfl rfl rfl rfl rfl rfl rfl rfl rfl rfl rfl ?_ | refine w_end12 rfl rfl rfl rfl rfl rfl rfl rfl rfl rfl rfl rfl ?_ | refine w_end13 rfl rfl rfl rfl rfl rfl rfl rfl rfl rfl rfl rfl rfl ?_ | refine w_end14 rfl rfl rfl rfl rfl rfl rfl rfl rfl rfl rfl rfl rfl rfl ?_ | refine w_end15 rfl rfl rfl rfl rfl rfl rfl rfl rfl rfl rfl rfl rfl rfl rfl ?_ | refine w_end16 rfl rfl rfl rfl rfl rfl rfl rfl rfl rfl rfl rfl rfl rfl rfl rfl ?_)
            | ((refine i_cons ?_); first
              | refine k_from rfl hla rfl (by omega) hp1 ?_
              | (refine k_app0 f7 (Ab.Own.lit0 _) rfl rfl (IsInts.src hp2) (hbd _ (by simp; omega)) ?_; intro s11 h8 q1 q2 q3)
              | refine k_skip rfl ?_
              | refine k_want rfl ?_
              | refine k_mv rfl ?_
              | refine k_pickT rfl rfl ?_
              | refine k_pickF rfl rfl ?_
              | refine k_notT rfl ?_
              | refine k_notF rfl ?_
              | refine k_add rfl rfl (by omega) ?_
              | refine k_sub rfl rfl (by omega) ?_
              | refine k_mul rfl rfl (by omega) ?_
              | refine k_neg rfl (by omega) ?_
              | refine k_quo rfl rfl (by omega) ?_
              | refine k_rem rfl rfl (by omega) ?_
              | refine k_conv rfl (by omega) ?_
              | refine k_max rfl rfl ?_
              | refine k_min rfl rfl ?_
              | refine k_lssT rfl rfl (by omega) ?_
              | refine k_lssF rfl rfl (by omega) ?_
              | refine k_lss rfl rfl (fun hc => ?_) (fun hc => ?_)
              | refine k_leqT rfl rfl (by omega) ?_
              | refine k_leqF rfl rfl (by omega) ?_
              | refine k_leq rfl rfl (fun hc => ?_) (fun hc => ?_)
              | refine k_gtrT rfl rfl (by omega) ?_
              | refine k_gtrF rfl rfl (by omega) ?_
              | refine k_gtr rfl rfl (fun hc => ?_) (fun hc => ?_)
              | refine k_geqT rfl rfl (by omega) ?_
              | refine k_geqF rfl rfl (by omega) ?_
              | refine k_geq rfl rfl (fun hc => ?_) (fun hc => ?_)
              | refine k_eqlT rfl rfl (by omega) ?_
              | refine k_eqlF rfl rfl (by omega) ?_
              | refine k_eql rfl rfl (fun hc => ?_) (fun hc => ?_)
              | refine k_neqT rfl rfl (by omega) ?_
              | refine k_neqF rfl rfl (by omega) ?_
              | refine k_neq rfl rfl (fun hc => ?_) (fun hc => ?_)
              | refine k_len rfl rfl ?_
              | refine k_ok rfl rfl ?_))
          obtain ⟨p2, hp3, hp4, -⟩ := IsInts.part (l := 0) (u := k) (IsSl.ext a7 (f7.trans q2)) (by omega) (by omega)
          repeat' (first
            | refine w_seq ?_
            | refine w_seqN ?_
            | refine w_seqX ?_
            | refine w_seqR ?_
            | refine w_blk ?_
            | refine w_blkN ?_
            | refine w_blkX ?_
            | refine w_blkR ?_
            | refine w_skip ?_
            | refine w_ret ?_
            | refine w_exit ?_
            | refine w_ops ?_
            | refine w_opsD ?_
            | refine d_one ?_
            | refine d_nil ?_
            | ((refine i_cond ?_); first | refine w_condT rfl ?_ | refine w_condF rfl ?_)
            | ((refine i_nil ?_); first | refine d_same ?_ | refine d_ord ?_ | refine d_ext ⟨_, rfl⟩ ?_ | refine d_ext (by assumption) ?_ | refine w_end0 ?_ | refine w_end1 rfl ?_ | refine w_end2 rfl rfl ?_ | refine w_end3 rfl rfl rfl ?_ | refine w_end4 rfl rfl rfl rfl ?_ | refine w_end5 rfl rfl rfl rfl rfl ?_ | refine w_end6 rfl rfl rfl rfl rfl rfl ?_ | refine w_end7 rfl rfl rfl rfl rfl rfl rfl ?_ | refine w_end8 rfl rfl rfl rfl rfl rfl rfl rfl ?_ | refine w_end9 rfl rfl rfl rfl rfl rfl rfl rfl rfl ?_ | refine w_end10 rfl rfl rfl rfl rfl rfl rfl rfl rfl rfl ?_ | refine w_end11 rfl rfl rfl rfl rfl rfl rfl rfl rfl rfl rfl ?_ | refine w_end12 rfl rfl rfl rfl rfl rfl rfl rfl rfl rfl rfl rfl ?_ | refine w_end13 rfl rfl rfl rfl rfl rfl rfl rfl rfl rfl rfl rfl rfl ?_ | refine w_end14 rfl rfl rfl rfl rfl rfl rfl rfl rfl rfl rfl rfl rfl rfl ?_ | refine w_end15 rfl rfl rfl rfl rfl rfl rfl rfl rfl rfl rfl rfl rfl rfl rfl ?_ | refine w_end16 rfl rfl rfl rfl rfl rfl rfl rfl rfl rfl rfl rfl rfl rfl rfl rfl ?_)
            | ((refine i_cons ?_); first
              | refine k_to rfl hla rfl (by omega) hp3 ?_
              | (refine k_app (f7.trans q2) q1 rfl rfl (IsInts.src hp4) (hbd _ (by simp; omega)) ?_; intro s12 h9 w1 w2 w3 w4)
              | refine k_skip rfl ?_
              | refine k_want rfl ?_
              | refine k_mv rfl ?_
              | refine k_pickT rfl rfl ?_
              | refine k_pickF rfl rfl ?_
              | refine k_notT rfl ?_
              | refine k_notF rfl ?_
              | refine k_add rfl rfl (by omega) ?_
              | refine k_sub rfl rfl (by omega) ?_
              | refine k_mul rfl rfl (by omega) ?_
              | refine k_neg rfl (by omega) ?_
              | refine k_quo rfl rfl (by omega) ?_
              | refine k_rem rfl rfl (by omega) ?_
              | refine k_conv rfl (by omega) ?_
              | refine k_max rfl rfl ?_
              | refine k_min rfl rfl ?_
              | refine k_lssT rfl rfl (by omega) ?_
              | refine k_lssF rfl rfl (by omega) ?_
              | refine k_lss rfl rfl (fun hc => ?_) (fun hc => ?_)
              | refine k_leqT rfl rfl (by omega) ?_
              | refine k_leqF rfl rfl (by omega) ?_
              | refine k_leq rfl rfl (fun hc => ?_) (fun hc => ?_)
              | refine k_gtrT rfl rfl (by omega) ?_
              | refine k_gtrF rfl rfl (by omega) ?_
              | refine k_gtr rfl rfl (fun hc => ?_) (fun hc => ?_)
              | refine k_geqT rfl rfl (by omega) ?_
              | refine k_geqF rfl rfl (by omega) ?_
              | refine k_geq rfl rfl (fun hc => ?_) (fun hc => ?_)
              | refine k_eqlT rfl rfl (by omega) ?_
              | refine k_eqlF rfl rfl (by omega) ?_
              | refine k_eql rfl rfl (fun hc => ?_) (fun hc => ?_)
              | refine k_neqT rfl rfl (by omega) ?_
              | refine k_neqF rfl rfl (by omega) ?_
              | refine k_neq rfl rfl (fun hc => ?_) (fun hc => ?_)
              | refine k_len rfl rfl ?_
              | refine k_ok rfl rfl ?_))
          have hnew : ints (xs.drop k ++ xs.take k) = List.map (SV.int .i64) (List.take (xs.length - k) (List.drop k xs)) ++ List.map (SV.int .i64) (List.take (k - 0) (List.drop 0 xs)) := by
            simp [ints, List.take_of_length_le]
          rw [← hnew] at w1
          have hct := conj_turn (u := xs.take k) (v := xs.drop k) fun l hl => hnx l (List.mem_of_mem_take hl)
          rw [List.take_append_drop] at hct
          have mt : Mid 60 (xs.drop k ++ xs.take k) := ⟨by simp; omega, fun x hx => (List.mem_append.1 hx).elim (fun h => mx.2 x (List.mem_of_mem_drop h)) (fun h => mx.2 x (List.mem_of_mem_take h))⟩
          repeat' (first
            | refine w_seq ?_
            | refine w_seqN ?_
            | refine w_seqX ?_
            | refine w_seqR ?_
            | refine w_blk ?_
            | refine w_blkN ?_
            | refine w_blkX ?_
            | refine w_blkR ?_
            | refine w_skip ?_
            | refine w_ret ?_
            | refine w_exit ?_
            | refine w_ops ?_
            | refine w_opsD ?_
            | refine d_one ?_
            | refine d_nil ?_
            | ((refine i_cond ?_); first | refine w_condT rfl ?_ | refine w_condF rfl ?_)
            | ((refine i_nil ?_); first | refine d_same ?_ | refine d_ord ?_ | refine d_ext ⟨_, rfl⟩ ?_ | refine d_ext (by assumption) ?_ | refine w_end0 ?_ | refine w_end1 rfl ?_ | refine w_end2 rfl rfl ?_ | refine w_end3 rfl rfl rfl ?_ | refine w_end4 rfl rfl rfl rfl ?_ | refine w_end5 rfl rfl rfl rfl rfl ?_ | refine w_end6 rfl rfl rfl rfl rfl rfl ?_ | refine w_end7 rfl rfl rfl rfl rfl rfl rfl ?_ | refine w_end8 rfl rfl rfl rfl rfl rfl rfl rfl ?_ | refine w_end9 rfl rfl rfl rfl rfl rfl rfl rfl rfl ?_ | refine w_end10 rfl rfl rfl rfl rfl rfl rfl rfl rfl rfl ?_ | refine w_end11 rfl rfl rfl rfl rfl rfl rfl rfl rfl rfl rfl ?_ | refine w_end12 rfl rfl rfl rfl rfl rfl rfl rfl rfl rfl rfl rfl ?_ | refine w_end13 rfl rfl rfl rfl rfl rfl rfl rfl rfl rfl rfl rfl rfl ?_ | refine w_end14 rfl rfl rfl rfl rfl rfl rfl rfl rfl rfl rfl rfl rfl rfl ?_ | refine w_end15 rfl rfl rfl rfl rfl rfl rfl rfl rfl rfl rfl rfl rfl rfl rfl ?_ | refine w_end16 rfl rfl rfl rfl rfl rfl rfl rfl rfl rfl rfl rfl rfl rfl rfl rfl ?_)
            | ((refine i_cons ?_); first
              | (refine k_call rfl (call24T (IsSl.ext a7 w2) (Ab.Own.ids w1) (mx.mono (by omega)) (mt.mono (by omega)) hct) ?_; rintro v h10' ⟨rfl, e10⟩)
              | refine k_skip rfl ?_
              | refine k_want rfl ?_
              | refine k_mv rfl ?_
              | refine k_pickT rfl rfl ?_
              | refine k_pickF rfl rfl ?_
              | refine k_notT rfl ?_
              | refine k_notF rfl ?_
              | refine k_add rfl rfl (by omega) ?_
              | refine k_sub rfl rfl (by omega) ?_
              | refine k_mul rfl rfl (by omega) ?_
              | refine k_neg rfl (by omega) ?_
              | refine k_quo rfl rfl (by omega) ?_
              | refine k_rem rfl rfl (by omega) ?_
              | refine k_conv rfl (by omega) ?_
              | refine k_max rfl rfl ?_
              | refine k_min rfl rfl ?_
              | refine k_lssT rfl rfl (by omega) ?_
              | refine k_lssF rfl rfl (by omega) ?_
              | refine k_lss rfl rfl (fun hc => ?_) (fun hc => ?_)
              | refine k_leqT rfl rfl (by omega) ?_
              | refine k_leqF rfl rfl (by omega) ?_
              | refine k_leq rfl rfl (fun hc => ?_) (fun hc => ?_)
              | refine k_gtrT rfl rfl (by omega) ?_
              | refine k_gtrF rfl rfl (by omega) ?_
              | refine k_gtr rfl rfl (fun hc => ?_) (fun hc => ?_)
              | refine k_geqT rfl rfl (by omega) ?_
              | refine k_geqF rfl rfl (by omega) ?_
              | refine k_geq rfl rfl (fun hc => ?_) (fun hc => ?_)
              | refine k_eqlT rfl rfl (by omega) ?_
              | refine k_eqlF rfl rfl (by omega) ?_
              | refine k_eql rfl rfl (fun hc => ?_) (fun hc => ?_)
              | refine k_neqT rfl rfl (by omega) ?_
              | refine k_neqF rfl rfl (by omega) ?_
              | refine k_neq rfl rfl (fun hc => ?_) (fun hc => ?_)
              | refine k_len rfl rfl ?_
              | refine k_ok rfl rfl ?_))
          have a10 := IsSl.ext (IsSl.ext a7 w2) e10
          have b10 := IsSl.ext (IsSl.ext b7 w2) e10
          have g0 : Ext h10' (h10' ++ [Blk.cells (rep [SV.int .i64 0] 0) true 1]) := ⟨_, rfl⟩
          have hbe : ∀ n : Nat, n ≤ 1000 → n * (8 + 1) ≤ bigN := fun n hn => by simp [bigN]; omega
          repeat' (first
            | refine w_seq ?_
            | refine w_seqN ?_
            | refine w_seqX ?_
            | refine w_seqR ?_
            | refine w_blk ?_
            | refine w_blkN ?_
            | refine w_blkX ?_
            | refine w_blkR ?_
            | refine w_skip ?_
            | refine w_ret ?_
            | refine w_exit ?_
            | refine w_ops ?_
            | refine w_opsD ?_
            | refine d_one ?_
            | refine d_nil ?_
            | ((refine i_cond ?_); first | refine w_condT rfl ?_ | refine w_condF rfl ?_)
            | ((refine i_nil ?_); first | refine d_same ?_ | refine d_ord ?_ | refine d_ext ⟨_, rfl⟩ ?_ | refine d_ext (by assumption) ?_ | refine w_end0 ?_ | refine w_end1 rfl ?_ | refine w_end2 rfl rfl ?_ | refine w_end3 rfl rfl rfl ?_ | refine w_end4 rfl rfl rfl rfl ?_ | refine w_end5 rfl rfl rfl rfl rfl ?_ | refine w_end6 rfl rfl rfl rfl rfl rfl ?_ | refine w_end7 rfl rfl rfl rfl rfl rfl rfl ?_ | refine w_end8 rfl rfl rfl rfl rfl rfl rfl rfl ?_ | refine w_end9 rfl rfl rfl rfl rfl rfl rfl rfl rfl ?_ | refine w_end10 rfl rfl rfl rfl rfl rfl rfl rfl rfl rfl ?_ | refine w_end11 rfl rfl rfl rfl rfl rfl rfl rfl rfl rfl rfl ?_ | refine w_end12 rfl rfl rfl rfl rfl rfl rfl rfl rfl rfl rfl rfl ?_ | refine w_end13 rfl rfl rfl rfl rfl rfl rfl rfl rfl rfl rfl rfl rfl ?_ | refine w_end14 rfl rfl rfl rfl rfl rfl rfl rfl rfl rfl rfl rfl rfl rfl ?_ | refine w_end15 rfl rfl rfl rfl rfl rfl rfl rfl rfl rfl rfl rfl rfl rfl rfl ?_ | refine w_end16 rfl rfl rfl rfl rfl rfl rfl rfl rfl rfl rfl rfl rfl rfl rfl rfl ?_)
            | ((refine i_cons ?_); first
              | refine k_len rfl hla ?_
              | (refine k_app0 g0 (Ab.Own.lit0 _) rfl rfl (IsInts.src (IsSl.ext a10 g0)) (hbe _ (by simp; omega)) ?_; intro s13 h11 v1 v2 v3)
              | refine k_skip rfl ?_
              | refine k_want rfl ?_
              | refine k_mv rfl ?_
              | refine k_pickT rfl rfl ?_
              | refine k_pickF rfl rfl ?_
              | refine k_notT rfl ?_
              | refine k_notF rfl ?_
              | refine k_add rfl rfl (by omega) ?_
              | refine k_sub rfl rfl (by omega) ?_
              | refine k_mul rfl rfl (by omega) ?_
              | refine k_neg rfl (by omega) ?_
              | refine k_quo rfl rfl (by omega) ?_
              | refine k_rem rfl rfl (by omega) ?_
              | refine k_conv rfl (by omega) ?_
              | refine k_max rfl rfl ?_
              | refine k_min rfl rfl ?_
              | refine k_lssT rfl rfl (by omega) ?_
              | refine k_lssF rfl rfl (by omega) ?_
              | refine k_lss rfl rfl (fun hc => ?_) (fun hc => ?_)
              | refine k_leqT rfl rfl (by omega) ?_
              | refine k_leqF rfl rfl (by omega) ?_
              | refine k_leq rfl rfl (fun hc => ?_) (fun hc => ?_)
              | refine k_gtrT rfl rfl (by omega) ?_
              | refine k_gtrF rfl rfl (by omega) ?_
              | refine k_gtr rfl rfl (fun hc => ?_) (fun hc => ?_)
              | refine k_geqT rfl rfl (by omega) ?_
              | refine k_geqF rfl rfl (by omega) ?_
              | refine k_geq rfl rfl (fun hc => ?_) (fun hc => ?_)
              | refine k_eqlT rfl rfl (by omega) ?_
              | refine k_eqlF rfl rfl (by omega) ?_
              | refine k_eql rfl rfl (fun hc => ?_) (fun hc => ?_)
              | refine k_neqT rfl rfl (by omega) ?_
              | refine k_neqF rfl rfl (by omega) ?_
              | refine k_neq rfl rfl (fun hc => ?_) (fun hc => ?_)
              | refine k_len rfl rfl ?_
              | refine k_ok rfl rfl ?_))
          all_goals first
            | (exfalso; omega)
            | skip
          have g1 : Ext h11 (h11 ++ [Blk.cells [SV.int .i64 7] true 1]) := ⟨_, rfl⟩
          have g2 := g0.trans v2
          repeat' (first
            | refine w_seq ?_
            | refine w_seqN ?_
            | refine w_seqX ?_
            | refine w_seqR ?_
            | refine w_blk ?_
            | refine w_blkN ?_
            | refine w_blkX ?_
            | refine w_blkR ?_
            | refine w_skip ?_
            | refine w_ret ?_
            | refine w_exit ?_
            | refine w_ops ?_
            | refine w_opsD ?_
            | refine d_one ?_
            | refine d_nil ?_
            | ((refine i_cond ?_); first | refine w_condT rfl ?_ | refine w_condF rfl ?_)
            | ((refine i_nil ?_); first | refine d_same ?_ | refine d_ord ?_ | refine d_ext ⟨_, rfl⟩ ?_ | refine d_ext (by assumption) ?_ | refine w_end0 ?_ | refine w_end1 rfl ?_ | refine w_end2 rfl rfl ?_ | refine w_end3 rfl rfl rfl ?_ | refine w_end4 rfl rfl rfl rfl ?_ | refine w_end5 rfl rfl rfl rfl rfl ?_ | refine w_end6 rfl rfl rfl rfl rfl rfl ?_ | refine w_end7 rfl rfl rfl rfl rfl rfl rfl ?_ | refine w_end8 rfl rfl rfl rfl rfl rfl rfl rfl ?_ | refine w_end9 rfl rfl rfl rfl rfl rfl rfl rfl rfl ?_ | refine w_end10 rfl rfl rfl rfl rfl rfl rfl rfl rfl rfl ?_ | refine w_end11 rfl rfl rfl rfl rfl rfl rfl rfl rfl rfl rfl ?_ | refine w_end12 rfl rfl rfl rfl rfl rfl rfl rfl rfl rfl rfl rfl ?_ | refine w_end13 rfl rfl rfl rfl rfl rfl rfl rfl rfl rfl rfl rfl rfl ?_ | refine w_end14 rfl rfl rfl rfl rfl rfl rfl rfl rfl rfl rfl rfl rfl rfl ?_ | refine w_end15 rfl rfl rfl rfl rfl rfl rfl rfl rfl rfl rfl rfl rfl rfl rfl ?_ | refine w_end16 rfl rfl rfl rfl rfl rfl rfl rfl rfl rfl rfl rfl rfl rfl rfl rfl ?_)
            | ((refine i_cons ?_); first
              | (refine k_app (ws := [.int .i64 7]) (g2.trans g1) (Ab.Own.ext v1 g1) rfl rfl (src_last rfl) (hbe _ (by simp; omega)) ?_; intro s14 h12 y1 y2 y3 y4)
              | refine k_skip rfl ?_
              | refine k_want rfl ?_
              | refine k_mv rfl ?_
              | refine k_pickT rfl rfl ?_
              | refine k_pickF rfl rfl ?_
              | refine k_notT rfl ?_
              | refine k_notF rfl ?_
              | refine k_add rfl rfl (by omega) ?_
              | refine k_sub rfl rfl (by omega) ?_
              | refine k_mul rfl rfl (by omega) ?_
              | refine k_neg rfl (by omega) ?_
              | refine k_quo rfl rfl (by omega) ?_
              | refine k_rem rfl rfl (by omega) ?_
              | refine k_conv rfl (by omega) ?_
              | refine k_max rfl rfl ?_
              | refine k_min rfl rfl ?_
              | refine k_lssT rfl rfl (by omega) ?_
              | refine k_lssF rfl rfl (by omega) ?_
              | refine k_lss rfl rfl (fun hc => ?_) (fun hc => ?_)
              | refine k_leqT rfl rfl (by omega) ?_
              | refine k_leqF rfl rfl (by omega) ?_
              | refine k_leq rfl rfl (fun hc => ?_) (fun hc => ?_)
              | refine k_gtrT rfl rfl (by omega) ?_
              | refine k_gtrF rfl rfl (by omega) ?_
              | refine k_gtr rfl rfl (fun hc => ?_) (fun hc => ?_)
              | refine k_geqT rfl rfl (by omega) ?_
              | refine k_geqF rfl rfl (by omega) ?_
              | refine k_geq rfl rfl (fun hc => ?_) (fun hc => ?_)
              | refine k_eqlT rfl rfl (by omega) ?_
              | refine k_eqlF rfl rfl (by omega) ?_
              | refine k_eql rfl rfl (fun hc => ?_) (fun hc => ?_)
              | refine k_neqT rfl rfl (by omega) ?_
              | refine k_neqF rfl rfl (by omega) ?_
              | refine k_neq rfl rfl (fun hc => ?_) (fun hc => ?_)
              | refine k_len rfl rfl ?_
              | refine k_ok rfl rfl ?_))
          have hn7 : ints (xs ++ [7]) = List.map (SV.int .i64) xs ++ [SV.int .i64 7] := by simp [ints]
          rw [← hn7] at y1
          have m7 : Mid 61 (xs ++ [7]) := mx.app (show Mid 1 [7] from ⟨Nat.le_refl _, fun x hx => by simp at hx; omega⟩)
          repeat' (first
            | refine w_seq ?_
            | refine w_seqN ?_
            | refine w_seqX ?_
            | refine w_seqR ?_
            | refine w_blk ?_
            | refine w_blkN ?_
            | refine w_blkX ?_
            | refine w_blkR ?_
            | refine w_skip ?_
            | refine w_ret ?_
            | refine w_exit ?_
            | refine w_ops ?_
            | refine w_opsD ?_
            | refine d_one ?_
            | refine d_nil ?_
            | ((refine i_cond ?_); first | refine w_condT rfl ?_ | refine w_condF rfl ?_)
            | ((refine i_nil ?_); first | refine d_same ?_ | refine d_ord ?_ | refine d_ext ⟨_, rfl⟩ ?_ | refine d_ext (by assumption) ?_ | refine w_end0 ?_ | refine w_end1 rfl ?_ | refine w_end2 rfl rfl ?_ | refine w_end3 rfl rfl rfl ?_ | refine w_end4 rfl rfl rfl rfl ?_ | refine w_end5 rfl rfl rfl rfl rfl ?_ | refine w_end6 rfl rfl rfl rfl rfl rfl ?_ | refine w_end7 rfl rfl rfl rfl rfl rfl rfl ?_ | refine w_end8 rfl rfl rfl rfl rfl rfl rfl rfl ?_ | refine w_end9 rfl rfl rfl rfl rfl rfl rfl rfl rfl ?_ | refine w_end10 rfl rfl rfl rfl rfl rfl rfl rfl rfl rfl ?_ | refine w_end11 rfl rfl rfl rfl rfl rfl rfl rfl rfl rfl rfl ?_ | refine w_end12 rfl rfl rfl rfl rfl rfl rfl rfl rfl rfl rfl rfl ?_ | refine w_end13 rfl rfl rfl rfl rfl rfl rfl rfl rfl rfl rfl rfl rfl ?_ | refine w_end14 rfl rfl rfl rfl rfl rfl rfl rfl rfl rfl rfl rfl rfl rfl ?_ | refine w_end15 rfl rfl rfl rfl rfl rfl rfl rfl rfl rfl rfl rfl rfl rfl rfl ?_ | refine w_end16 rfl rfl rfl rfl rfl rfl rfl rfl rfl rfl rfl rfl rfl rfl rfl rfl ?_)
            | ((refine i_cons ?_); first
              | (refine k_call rfl (call24F (IsSl.ext a10 y2) (Ab.Own.ids y1) (mx.mono (by omega)) (m7.mono (by omega)) conj_seven) ?_; rintro v h13 ⟨rfl, e13⟩)
              | (refine k_call rfl (call24 _ _ _ xs ys (IsSl.ext (IsSl.ext a10 y2) e13) (IsSl.ext (IsSl.ext b10 y2) e13) (mx.mono (by omega)) (my.mono (by omega))) ?_; rintro v h14 ⟨c1, rfl, d1, e14⟩)
              | refine k_skip rfl ?_
              | refine k_want rfl ?_
              | refine k_mv rfl ?_
              | refine k_pickT rfl rfl ?_
              | refine k_pickF rfl rfl ?_
              | refine k_notT rfl ?_
              | refine k_notF rfl ?_
              | refine k_add rfl rfl (by omega) ?_
              | refine k_sub rfl rfl (by omega) ?_
              | refine k_mul rfl rfl (by omega) ?_
              | refine k_neg rfl (by omega) ?_
              | refine k_quo rfl rfl (by omega) ?_
              | refine k_rem rfl rfl (by omega) ?_
              | refine k_conv rfl (by omega) ?_
              | refine k_max rfl rfl ?_
              | refine k_min rfl rfl ?_
              | refine k_lssT rfl rfl (by omega) ?_
              | refine k_lssF rfl rfl (by omega) ?_
              | refine k_lss rfl rfl (fun hc => ?_) (fun hc => ?_)
              | refine k_leqT rfl rfl (by omega) ?_
              | refine k_leqF rfl rfl (by omega) ?_
              | refine k_leq rfl rfl (fun hc => ?_) (fun hc => ?_)
              | refine k_gtrT rfl rfl (by omega) ?_
              | refine k_gtrF rfl rfl (by omega) ?_
              | refine k_gtr rfl rfl (fun hc => ?_) (fun hc => ?_)
              | refine k_geqT rfl rfl (by omega) ?_
              | refine k_geqF rfl rfl (by omega) ?_
              | refine k_geq rfl rfl (fun hc => ?_) (fun hc => ?_)
              | refine k_eqlT rfl rfl (by omega) ?_
              | refine k_eqlF rfl rfl (by omega) ?_
              | refine k_eql rfl rfl (fun hc => ?_) (fun hc => ?_)
              | refine k_neqT rfl rfl (by omega) ?_
              | refine k_neqF rfl rfl (by omega) ?_
              | refine k_neq rfl rfl (fun hc => ?_) (fun hc => ?_)
              | refine k_len rfl rfl ?_
              | refine k_ok rfl rfl ?_))
          repeat' (first
            | refine w_seq ?_
            | refine w_seqN ?_
            | refine w_seqX ?_
            | refine w_seqR ?_
            | refine w_blk ?_
            | refine w_blkN ?_
            | refine w_blkX ?_
            | refine w_blkR ?_
            | refine w_skip ?_
            | refine w_ret ?_
            | refine w_exit ?_
            | refine w_ops ?_
            | refine w_opsD ?_
            | refine d_one ?_
            | refine d_nil ?_
            | ((refine i_cond ?_); first | refine w_condT rfl ?_ | refine w_condF rfl ?_)
            | ((refine i_nil ?_); first | refine d_same ?_ | refine d_ord ?_ | refine d_ext ⟨_, rfl⟩ ?_ | refine d_ext (by assumption) ?_ | refine w_end0 ?_ | refine w_end1 rfl ?_ | refine w_end2 rfl rfl ?_ | refine w_end3 rfl rfl rfl ?_ | refine w_end4 rfl rfl rfl rfl ?_ | refine w_end5 rfl rfl rfl rfl rfl ?_ | refine w_end6 rfl rfl rfl rfl rfl rfl ?_ | refine w_end7 rfl rfl rfl rfl rfl rfl rfl ?_ | refine w_end8 rfl rfl rfl rfl rfl rfl rfl rfl ?_ | refine w_end9 rfl rfl rfl rfl rfl rfl rfl rfl rfl ?_ | refine w_end10 rfl rfl rfl rfl rfl rfl rfl rfl rfl rfl ?_ | refine w_end11 rfl rfl rfl rfl rfl rfl rfl rfl rfl rfl rfl ?_ | refine w_end12 rfl rfl rfl rfl rfl rfl rfl rfl rfl rfl rfl rfl ?_ | refine w_end13 rfl rfl rfl rfl rfl rfl rfl rfl rfl rfl rfl rfl rfl ?_ | refine w_end14 rfl rfl rfl rfl rfl rfl rfl rfl rfl rfl rfl rfl rfl rfl ?_ | refine w_end15 rfl rfl rfl rfl rfl rfl rfl rfl rfl rfl rfl rfl rfl rfl rfl ?_ | refine w_end16 rfl rfl rfl rfl rfl rfl rfl rfl rfl rfl rfl rfl rfl rfl rfl rfl ?_)
            | ((refine i_cons ?_); first
              | (refine k_call rfl (call24 _ _ _ ys xs (IsSl.ext (IsSl.ext (IsSl.ext b10 y2) e13) e14) (IsSl.ext (IsSl.ext (IsSl.ext a10 y2) e13) e14) (my.mono (by omega)) (mx.mono (by omega))) ?_; rintro v h15 ⟨c2, rfl, d2, e15⟩)
              | refine k_skip rfl ?_
              | refine k_want rfl ?_
              | refine k_mv rfl ?_
              | refine k_pickT rfl rfl ?_
              | refine k_pickF rfl rfl ?_
              | refine k_notT rfl ?_
              | refine k_notF rfl ?_
              | refine k_add rfl rfl (by omega) ?_
              | refine k_sub rfl rfl (by omega) ?_
              | refine k_mul rfl rfl (by omega) ?_
              | refine k_neg rfl (by omega) ?_
              | refine k_quo rfl rfl (by omega) ?_
              | refine k_rem rfl rfl (by omega) ?_
              | refine k_conv rfl (by omega) ?_
              | refine k_max rfl rfl ?_
              | refine k_min rfl rfl ?_
              | refine k_lssT rfl rfl (by omega) ?_
              | refine k_lssF rfl rfl (by omega) ?_
              | refine k_lss rfl rfl (fun hc => ?_) (fun hc => ?_)
              | refine k_leqT rfl rfl (by omega) ?_
              | refine k_leqF rfl rfl (by omega) ?_
              | refine k_leq rfl rfl (fun hc => ?_) (fun hc => ?_)
              | refine k_gtrT rfl rfl (by omega) ?_
              | refine k_gtrF rfl rfl (by omega) ?_
              | refine k_gtr rfl rfl (fun hc => ?_) (fun hc => ?_)
              | refine k_geqT rfl rfl (by omega) ?_
              | refine k_geqF rfl rfl (by omega) ?_
              | refine k_geq rfl rfl (fun hc => ?_) (fun hc => ?_)
              | refine k_eqlT rfl rfl (by omega) ?_
              | refine k_eqlF rfl rfl (by omega) ?_
              | refine k_eql rfl rfl (fun hc => ?_) (fun hc => ?_)
              | refine k_neqT rfl rfl (by omega) ?_
              | refine k_neqF rfl rfl (by omega) ?_
              | refine k_neq rfl rfl (fun hc => ?_) (fun hc => ?_)
              | refine k_len rfl rfl ?_
              | refine k_ok rfl rfl ?_))
          obtain rfl : c2 = c1 := Bool.eq_iff_iff.2 (d2.trans (Iff.trans ⟨Conj.symm, Conj.symm⟩ d1.symm))
          cases c2
          · repeat' (first
   | refine w_seq ?_
   | refine w_seqN ?_
   | refine w_seqX ?_
   | refine w_seqR ?_
   | refine w_blk ?_
   | refine w_blkN ?_
   | refine w_blkX ?_
   | refine w_blkR ?_
   | refine w_skip ?_
   | refine w_ret ?_
   | refine w_exit ?_
   | refine w_ops ?_
   | refine w_opsD ?_
   | refine d_one ?_
   | refine d_nil ?_
   | ((refine i_cond ?_); first | refine w_condT rfl ?_ | refine w_condF rfl ?_)
   | ((refine i_nil ?_); first | refine d_same ?_ | refine d_ord ?_ | refine d_ext ⟨_, rfl⟩ ?_ | refine d_ext (by assumption) ?_ | refine w_end0 ?_ | refine w_end1 rfl ?_ | refine w_end2 rfl rfl ?_ | refine w_end3 rfl rfl rfl ?_ | refine w_end4 rfl rfl rfl rfl ?_ | refine w_end5 rfl rfl rfl rfl rfl ?_ | refine w_end6 rfl rfl rfl rfl rfl rfl ?_ | refine w_end7 rfl rfl rfl rfl rfl rfl rfl ?_ | refine w_end8 rfl rfl rfl rfl rfl rfl rfl rfl ?_ | refine w_end9 rfl rfl rfl rfl rfl rfl rfl rfl rfl ?_ | refine w_end10 rfl rfl rfl rfl rfl rfl rfl rfl rfl rfl ?_ | refine w_end11 rfl rfl rfl rfl rfl rfl rfl rfl rfl rfl rfl ?_ | refine w_end12 rfl rfl rfl rfl rfl rfl rfl rfl rfl rfl rfl rfl ?_ | refine w_end13 rfl rfl rfl rfl rfl rfl rfl rfl rfl rfl rfl rfl rfl ?_ | refine w_end14 rfl rfl rfl rfl rfl rfl rfl rfl rfl rfl rfl rfl rfl rfl ?_ | refine w_end15 rfl rfl rfl rfl rfl rfl rfl rfl rfl rfl rfl rfl rfl rfl rfl ?_ | refine w_end16 rfl rfl rfl rfl rfl rfl rfl rfl rfl rfl rfl rfl rfl rfl rfl rfl ?_)
   | ((refine i_cons ?_); first
     | refine k_skip rfl ?_
     | refine k_want rfl ?_
     | refine k_mv rfl ?_
     | refine k_pickT rfl rfl ?_
     | refine k_pickF rfl rfl ?_
     | refine k_notT rfl ?_
     | refine k_notF rfl ?_
     | refine k_add rfl rfl (by omega) ?_
     | refine k_sub rfl rfl (by omega) ?_
     | refine k_mul rfl rfl (by omega) ?_
     | refine k_neg rfl (by omega) ?_
     | refine k_quo rfl rfl (by omega) ?_
     | refine k_rem rfl rfl (by omega) ?_
     | refine k_conv rfl (by omega) ?_
     | refine k_max rfl rfl ?_
     | refine k_min rfl rfl ?_
     | refine k_lssT rfl rfl (by omega) ?_
     | refine k_lssF rfl rfl (by omega) ?_
     | refine k_lss rfl rfl (fun hc => ?_) (fun hc => ?_)
     | refine k_leqT rfl rfl (by omega) ?_
     | refine k_leqF rfl rfl (by omega) ?_
     | refine k_leq rfl rfl (fun hc => ?_) (fun hc => ?_)
     | refine k_gtrT rfl rfl (by omega) ?_
     | refine k_gtrF rfl rfl (by omega) ?_
     | refine k_gtr rfl rfl (fun hc => ?_) (fun hc => ?_)
     | refine k_geqT rfl rfl (by omega) ?_
     | refine k_geqF rfl rfl (by omega) ?_
     | refine k_geq rfl rfl (fun hc => ?_) (fun hc => ?_)
     | refine k_eqlT rfl rfl (by omega) ?_
     | refine k_eqlF rfl rfl (by omega) ?_
     | refine k_eql rfl rfl (fun hc => ?_) (fun hc => ?_)
     | refine k_neqT rfl rfl (by omega) ?_
     | refine k_neqF rfl rfl (by omega) ?_
     | refine k_neq rfl rfl (fun hc => ?_) (fun hc => ?_)
     | refine k_len rfl rfl ?_
     | refine k_ok rfl rfl ?_))
            exact ⟨.inr rfl, rfl⟩
          · repeat' (first
   | refine w_seq ?_
   | refine w_seqN ?_
   | refine w_seqX ?_
   | refine w_seqR ?_
   | refine w_blk ?_
   | refine w_blkN ?_
   | refine w_blkX ?_
   | refine w_blkR ?_
   | refine w_skip ?_
   | refine w_ret ?_
   | refine w_exit ?_
   | refine w_ops ?_
   | refine w_opsD ?_
   | refine d_one ?_
   | refine d_nil ?_
   | ((refine i_cond ?_); first | refine w_condT rfl ?_ | refine w_condF rfl ?_)
   | ((refine i_nil ?_); first | refine d_same ?_ | refine d_ord ?_ | refine d_ext ⟨_, rfl⟩ ?_ | refine d_ext (by assumption) ?_ | refine w_end0 ?_ | refine w_end1 rfl ?_ | refine w_end2 rfl rfl ?_ | refine w_end3 rfl rfl rfl ?_ | refine w_end4 rfl rfl rfl rfl ?_ | refine w_end5 rfl rfl rfl rfl rfl ?_ | refine w_end6 rfl rfl rfl rfl rfl rfl ?_ | refine w_end7 rfl rfl rfl rfl rfl rfl rfl ?_ | refine w_end8 rfl rfl rfl rfl rfl rfl rfl rfl ?_ | refine w_end9 rfl rfl rfl rfl rfl rfl rfl rfl rfl ?_ | refine w_end10 rfl rfl rfl rfl rfl rfl rfl rfl rfl rfl ?_ | refine w_end11 rfl rfl rfl rfl rfl rfl rfl rfl rfl rfl rfl ?_ | refine w_end12 rfl rfl rfl rfl rfl rfl rfl rfl rfl rfl rfl rfl ?_ | refine w_end13 rfl rfl rfl rfl rfl rfl rfl rfl rfl rfl rfl rfl rfl ?_ | refine w_end14 rfl rfl rfl rfl rfl rfl rfl rfl rfl rfl rfl rfl rfl rfl ?_ | refine w_end15 rfl rfl rfl rfl rfl rfl rfl rfl rfl rfl rfl rfl rfl rfl rfl ?_ | refine w_end16 rfl rfl rfl rfl rfl rfl rfl rfl rfl rfl rfl rfl rfl rfl rfl rfl ?_)
   | ((refine i_cons ?_); first
     | refine k_skip rfl ?_
     | refine k_want rfl ?_
     | refine k_mv rfl ?_
     | refine k_pickT rfl rfl ?_
     | refine k_pickF rfl rfl ?_
     | refine k_notT rfl ?_
     | refine k_notF rfl ?_
     | refine k_add rfl rfl (by omega) ?_
     | refine k_sub rfl rfl (by omega) ?_
     | refine k_mul rfl rfl (by omega) ?_
     | refine k_neg rfl (by omega) ?_
     | refine k_quo rfl rfl (by omega) ?_
     | refine k_rem rfl rfl (by omega) ?_
     | refine k_conv rfl (by omega) ?_
     | refine k_max rfl rfl ?_
     | refine k_min rfl rfl ?_
     | refine k_lssT rfl rfl (by omega) ?_
     | refine k_lssF rfl rfl (by omega) ?_
     | refine k_lss rfl rfl (fun hc => ?_) (fun hc => ?_)
     | refine k_leqT rfl rfl (by omega) ?_
     | refine k_leqF rfl rfl (by omega) ?_
     | refine k_leq rfl rfl (fun hc => ?_) (fun hc => ?_)
     | refine k_gtrT rfl rfl (by omega) ?_
     | refine k_gtrF rfl rfl (by omega) ?_
     | refine k_gtr rfl rfl (fun hc => ?_) (fun hc => ?_)
     | refine k_geqT rfl rfl (by omega) ?_
     | refine k_geqF rfl rfl (by omega) ?_
     | refine k_geq rfl rfl (fun hc => ?_) (fun hc => ?_)
     | refine k_eqlT rfl rfl (by omega) ?_
     | refine k_eqlF rfl rfl (by omega) ?_
     | refine k_eql rfl rfl (fun hc => ?_) (fun hc => ?_)
     | refine k_neqT rfl rfl (by omega) ?_
     | refine k_neqF rfl rfl (by omega) ?_
     | refine k_neq rfl rfl (fun hc => ?_) (fun hc => ?_)
     | refine k_len rfl rfl ?_
     | refine k_ok rfl rfl ?_))
            exact ⟨.inr rfl, rfl⟩
        · skip
          have g0 : Ext h7 (h7 ++ [Blk.cells (rep [SV.int .i64 0] 0) true 1]) := ⟨_, rfl⟩
          have hbe : ∀ n : Nat, n ≤ 1000 → n * (8 + 1) ≤ bigN := fun n hn => by simp [bigN]; omega
          repeat' (first
            | refine w_seq ?_
            | refine w_seqN ?_
            | refine w_seqX ?_
            | refine w_seqR ?_
            | refine w_blk ?_
            | refine w_blkN ?_
            | refine w_blkX ?_
            | refine w_blkR ?_
            | refine w_skip ?_
            | refine w_ret ?_
            | refine w_exit ?_
            | refine w_ops ?_
            | refine w_opsD ?_
            | refine d_one ?_
            | refine d_nil ?_
            | ((refine i_cond ?_); first | refine w_condT rfl ?_ | refine w_condF rfl ?_)
            | ((refine i_nil ?_); first | refine d_same ?_ | refine d_ord ?_ | refine d_ext ⟨_, rfl⟩ ?_ | refine d_ext (by assumption) ?_ | refine w_end0 ?_ | refine w_end1 rfl ?_ | refine w_end2 rfl rfl ?_ | refine w_end3 rfl rfl rfl ?_ | refine w_end4 rfl rfl rfl rfl ?_ | refine w_end5 rfl rfl rfl rfl rfl ?_ | refine w_end6 rfl rfl rfl rfl rfl rfl ?_ | refine w_end7 rfl rfl rfl rfl rfl rfl rfl ?_ | refine w_end8 rfl rfl rfl rfl rfl rfl rfl rfl ?_ | refine w_end9 rfl rfl rfl rfl rfl rfl rfl rfl rfl ?_ | refine w_end10 rfl rfl rfl rfl rfl rfl rfl rfl rfl rfl ?_ | refine w_end11 rfl rfl rfl rfl rfl rfl rfl rfl rfl rfl rfl ?_ | refine w_end12 rfl rfl rfl rfl rfl rfl rfl rfl rfl rfl rfl rfl ?_ | refine w_end13 rfl rfl rfl rfl rfl rfl rfl rfl rfl rfl rfl rfl rfl ?_ | refine w_end14 rfl rfl rfl rfl rfl rfl rfl rfl rfl rfl rfl rfl rfl rfl ?_ | refine w_end15 rfl rfl rfl rfl rfl rfl rfl rfl rfl rfl rfl rfl rfl rfl rfl ?_ | refine w_end16 rfl rfl rfl rfl rfl rfl rfl rfl rfl rfl rfl rfl rfl rfl rfl rfl ?_)
            | ((refine i_cons ?_); first
              | refine k_len rfl hla ?_
              | (refine k_app0 g0 (Ab.Own.lit0 _) rfl rfl (IsInts.src (IsSl.ext a7 g0)) (hbe _ (by simp; omega)) ?_; intro s13 h11 v1 v2 v3)
              | refine k_skip rfl ?_
              | refine k_want rfl ?_
              | refine k_mv rfl ?_
              | refine k_pickT rfl rfl ?_
              | refine k_pickF rfl rfl ?_
              | refine k_notT rfl ?_
              | refine k_notF rfl ?_
              | refine k_add rfl rfl (by omega) ?_
              | refine k_sub rfl rfl (by omega) ?_
              | refine k_mul rfl rfl (by omega) ?_
              | refine k_neg rfl (by omega) ?_
              | refine k_quo rfl rfl (by omega) ?_
              | refine k_rem rfl rfl (by omega) ?_
              | refine k_conv rfl (by omega) ?_
              | refine k_max rfl rfl ?_
              | refine k_min rfl rfl ?_
              | refine k_lssT rfl rfl (by omega) ?_
              | refine k_lssF rfl rfl (by omega) ?_
              | refine k_lss rfl rfl (fun hc => ?_) (fun hc => ?_)
              | refine k_leqT rfl rfl (by omega) ?_
              | refine k_leqF rfl rfl (by omega) ?_
              | refine k_leq rfl rfl (fun hc => ?_) (fun hc => ?_)
              | refine k_gtrT rfl rfl (by omega) ?_
              | refine k_gtrF rfl rfl (by omega) ?_
              | refine k_gtr rfl rfl (fun hc => ?_) (fun hc => ?_)
              | refine k_geqT rfl rfl (by omega) ?_
              | refine k_geqF rfl rfl (by omega) ?_
              | refine k_geq rfl rfl (fun hc => ?_) (fun hc => ?_)
              | refine k_eqlT rfl rfl (by omega) ?_
              | refine k_eqlF rfl rfl (by omega) ?_
              | refine k_eql rfl rfl (fun hc => ?_) (fun hc => ?_)
              | refine k_neqT rfl rfl (by omega) ?_
              | refine k_neqF rfl rfl (by omega) ?_
              | refine k_neq rfl rfl (fun hc => ?_) (fun hc => ?_)
              | refine k_len rfl rfl ?_
              | refine k_ok rfl rfl ?_))
          all_goals first
            | (exfalso; omega)
            | skip
          have g1 : Ext h11 (h11 ++ [Blk.cells [SV.int .i64 7] true 1]) := ⟨_, rfl⟩
          have g2 := g0.trans v2
          repeat' (first
            | refine w_seq ?_
            | refine w_seqN ?_
            | refine w_seqX ?_
            | refine w_seqR ?_
            | refine w_blk ?_
            | refine w_blkN ?_
            | refine w_blkX ?_
            | refine w_blkR ?_
            | refine w_skip ?_
            | refine w_ret ?_
            | refine w_exit ?_
            | refine w_ops ?_
            | refine w_opsD ?_
            | refine d_one ?_
            | refine d_nil ?_
            | ((refine i_cond ?_); first | refine w_condT rfl ?_ | refine w_condF rfl ?_)
            | ((refine i_nil ?_); first | refine d_same ?_ | refine d_ord ?_ | refine d_ext ⟨_, rfl⟩ ?_ | refine d_ext (by assumption) ?_ | refine w_end0 ?_ | refine w_end1 rfl ?_ | refine w_end2 rfl rfl ?_ | refine w_end3 rfl rfl rfl ?_ | refine w_end4 rfl rfl rfl rfl ?_ | refine w_end5 rfl rfl rfl rfl rfl ?_ | refine w_end6 rfl rfl rfl rfl rfl rfl ?_ | refine w_end7 rfl rfl rfl rfl rfl rfl rfl ?_ | refine w_end8 rfl rfl rfl rfl rfl rfl rfl rfl ?_ | refine w_end9 rfl rfl rfl rfl rfl rfl rfl rfl rfl ?_ | refine w_end10 rfl rfl rfl rfl rfl rfl rfl rfl rfl rfl ?_ | refine w_end11 rfl rfl rfl rfl rfl rfl rfl rfl rfl rfl rfl ?_ | refine w_end12 rfl rfl rfl rfl rfl rfl rfl rfl rfl rfl rfl rfl ?_ | refine w_end13 rfl rfl rfl rfl rfl rfl rfl rfl rfl rfl rfl rfl rfl ?_ | refine w_end14 rfl rfl rfl rfl rfl rfl rfl rfl rfl rfl rfl rfl rfl rfl ?_ | refine w_end15 rfl rfl rfl rfl rfl rfl rfl rfl rfl rfl rfl rfl rfl rfl rfl ?_ | refine w_end16 rfl rfl rfl rfl rfl rfl rfl rfl rfl rfl rfl rfl rfl rfl rfl rfl ?_)
            | ((refine i_cons ?_); first
              | (refine k_app (ws := [.int .i64 7]) (g2.trans g1) (Ab.Own.ext v1 g1) rfl rfl (src_last rfl) (hbe _ (by simp; omega)) ?_; intro s14 h12 y1 y2 y3 y4)
              | refine k_skip rfl ?_
              | refine k_want rfl ?_
              | refine k_mv rfl ?_
              | refine k_pickT rfl rfl ?_
              | refine k_pickF rfl rfl ?_
              | refine k_notT rfl ?_
              | refine k_notF rfl ?_
              | refine k_add rfl rfl (by omega) ?_
              | refine k_sub rfl rfl (by omega) ?_
              | refine k_mul rfl rfl (by omega) ?_
              | refine k_neg rfl (by omega) ?_
              | refine k_quo rfl rfl (by omega) ?_
              | refine k_rem rfl rfl (by omega) ?_
              | refine k_conv rfl (by omega) ?_
              | refine k_max rfl rfl ?_
              | refine k_min rfl rfl ?_
              | refine k_lssT rfl rfl (by omega) ?_
              | refine k_lssF rfl rfl (by omega) ?_
              | refine k_lss rfl rfl (fun hc => ?_) (fun hc => ?_)
              | refine k_leqT rfl rfl (by omega) ?_
              | refine k_leqF rfl rfl (by omega) ?_
              | refine k_leq rfl rfl (fun hc => ?_) (fun hc => ?_)
              | refine k_gtrT rfl rfl (by omega) ?_
              | refine k_gtrF rfl rfl (by omega) ?_
              | refine k_gtr rfl rfl (fun hc => ?_) (fun hc => ?_)
              | refine k_geqT rfl rfl (by omega) ?_
              | refine k_geqF rfl rfl (by omega) ?_
              | refine k_geq rfl rfl (fun hc => ?_) (fun hc => ?_)
              | refine k_eqlT rfl rfl (by omega) ?_
              | refine k_eqlF rfl rfl (by omega) ?_
              | refine k_eql rfl rfl (fun hc => ?_) (fun hc => ?_)
              | refine k_neqT rfl rfl (by omega) ?_
              | refine k_neqF rfl rfl (by omega) ?_
              | refine k_neq rfl rfl (fun hc => ?_) (fun hc => ?_)
              | refine k_len rfl rfl ?_
              | refine k_ok rfl rfl ?_))
          have hn7 : ints (xs ++ [7]) = List.map (SV.int .i64) xs ++ [SV.int .i64 7] := by simp [ints]
          rw [← hn7] at y1
          have m7 : Mid 61 (xs ++ [7]) := mx.app (show Mid 1 [7] from ⟨Nat.le_refl _, fun x hx => by simp at hx; omega⟩)
          repeat' (first
            | refine w_seq ?_
            | refine w_seqN ?_
            | refine w_seqX ?_
            | refine w_seqR ?_
            | refine w_blk ?_
            | refine w_blkN ?_
            | refine w_blkX ?_
            | refine w_blkR ?_
            | refine w_skip ?_
            | refine w_ret ?_
            | refine w_exit ?_
            | refine w_ops ?_
            | refine w_opsD ?_
            | refine d_one ?_
            | refine d_nil ?_
            | ((refine i_cond ?_); first | refine w_condT rfl ?_ | refine w_condF rfl ?_)
            | ((refine i_nil ?_); first | refine d_same ?_ | refine d_ord ?_ | refine d_ext ⟨_, rfl⟩ ?_ | refine d_ext (by assumption) ?_ | refine w_end0 ?_ | refine w_end1 rfl ?_ | refine w_end2 rfl rfl ?_ | refine w_end3 rfl rfl rfl ?_ | refine w_end4 rfl rfl rfl rfl ?_ | refine w_end5 rfl rfl rfl rfl rfl ?_ | refine w_end6 rfl rfl rfl rfl rfl rfl ?_ | refine w_end7 rfl rfl rfl rfl rfl rfl rfl ?_ | refine w_end8 rfl rfl rfl rfl rfl rfl rfl rfl ?_ | refine w_end9 rfl rfl rfl rfl rfl rfl rfl rfl rfl ?_ | refine w_end10 rfl rfl rfl rfl rfl rfl rfl rfl rfl rfl ?_ | refine w_end11 rfl rfl rfl rfl rfl rfl rfl rfl rfl rfl rfl ?_ | refine w_end12 rfl rfl rfl rfl rfl rfl rfl rfl rfl rfl rfl rfl ?_ | refine w_end13 rfl rfl rfl rfl rfl rfl rfl rfl rfl rfl rfl rfl rfl ?_ | refine w_end14 rfl rfl rfl rfl rfl rfl rfl rfl rfl rfl rfl rfl rfl rfl ?_ | refine w_end15 rfl rfl rfl rfl rfl rfl rfl rfl rfl rfl rfl rfl rfl rfl rfl ?_ | refine w_end16 rfl rfl rfl rfl rfl rfl rfl rfl rfl rfl rfl rfl rfl rfl rfl rfl ?_)
            | ((refine i_cons ?_); first
              | (refine k_call rfl (call24F (IsSl.ext a7 y2) (Ab.Own.ids y1) (mx.mono (by omega)) (m7.mono (by omega)) conj_seven) ?_; rintro v h13 ⟨rfl, e13⟩)
              | (refine k_call rfl (call24 _ _ _ xs ys (IsSl.ext (IsSl.ext a7 y2) e13) (IsSl.ext (IsSl.ext b7 y2) e13) (mx.mono (by omega)) (my.mono (by omega))) ?_; rintro v h14 ⟨c1, rfl, d1, e14⟩)
              | refine k_skip rfl ?_
              | refine k_want rfl ?_
              | refine k_mv rfl ?_
              | refine k_pickT rfl rfl ?_
              | refine k_pickF rfl rfl ?_
              | refine k_notT rfl ?_
              | refine k_notF rfl ?_
              | refine k_add rfl rfl (by omega) ?_
              | refine k_sub rfl rfl (by omega) ?_
              | refine k_mul rfl rfl (by omega) ?_
              | refine k_neg rfl (by omega) ?_
              | refine k_quo rfl rfl (by omega) ?_
              | refine k_rem rfl rfl (by omega) ?_
              | refine k_conv rfl (by omega) ?_
              | refine k_max rfl rfl ?_
              | refine k_min rfl rfl ?_
              | refine k_lssT rfl rfl (by omega) ?_
              | refine k_lssF rfl rfl (by omega) ?_
              | refine k_lss rfl rfl (fun hc => ?_) (fun hc => ?_)
              | refine k_leqT rfl rfl (by omega) ?_
              | refine k_leqF rfl rfl (by omega) ?_
              | refine k_leq rfl rfl (fun hc => ?_) (fun hc => ?_)
              | refine k_gtrT rfl rfl (by omega) ?_
              | refine k_gtrF rfl rfl (by omega) ?_
              | refine k_gtr rfl rfl (fun hc => ?_) (fun hc => ?_)
              | refine k_geqT rfl rfl (by omega) ?_
              | refine k_geqF rfl rfl (by omega) ?_
              | refine k_geq rfl rfl (fun hc => ?_) (fun hc => ?_)
              | refine k_eqlT rfl rfl (by omega) ?_
              | refine k_eqlF rfl rfl (by omega) ?_
              | refine k_eql rfl rfl (fun hc => ?_) (fun hc => ?_)
              | refine k_neqT rfl rfl (by omega) ?_
              | refine k_neqF rfl rfl (by omega) ?_
              | refine k_neq rfl rfl (fun hc => ?_) (fun hc => ?_)
              | refine k_len rfl rfl ?_
              | refine k_ok rfl rfl ?_))
          repeat' (first
            | refine w_seq ?_
            | refine w_seqN ?_
            | refine w_seqX ?_
            | refine w_seqR ?_
            | refine w_blk ?_
            | refine w_blkN ?_
            | refine w_blkX ?_
            | refine w_blkR ?_
            | refine w_skip ?_
            | refine w_ret ?_
            | refine w_exit ?_
            | refine w_ops ?_
            | refine w_opsD ?_
            | refine d_one ?_
            | refine d_nil ?_
            | ((refine i_cond ?_); first | refine w_condT rfl ?_ | refine w_condF rfl ?_)
            | ((refine i_nil ?_); first | refine d_same ?_ | refine d_ord ?_ | refine d_ext ⟨_, rfl⟩ ?_ | refine d_ext (by assumption) ?_ | refine w_end0 ?_ | refine w_end1 rfl ?_ | refine w_end2 rfl rfl ?_ | refine w_end3 rfl rfl rfl ?_ | refine w_end4 rfl rfl rfl rfl ?_ | refine w_end5 rfl rfl rfl rfl rfl ?_ | refine w_end6 rfl rfl rfl rfl rfl rfl ?_ | refine w_end7 rfl rfl rfl rfl rfl rfl rfl ?_ | refine w_end8 rfl rfl rfl rfl rfl rfl rfl rfl ?_ | refine w_end9 rfl rfl rfl rfl rfl rfl rfl rfl rfl ?_ | refine w_end10 rfl rfl rfl rfl rfl rfl rfl rfl rfl rfl ?_ | refine w_end11 rfl rfl rfl rfl rfl rfl rfl rfl rfl rfl rfl ?_ | refine w_end12 rfl rfl rfl rfl rfl rfl rfl rfl rfl rfl rfl rfl ?_ | refine w_end13 rfl rfl rfl rfl rfl rfl rfl rfl rfl rfl rfl rfl rfl ?_ | refine w_end14 rfl rfl rfl rfl rfl rfl rfl rfl rfl rfl rfl rfl rfl rfl ?_ | refine w_end15 rfl rfl rfl rfl rfl rfl rfl rfl rfl rfl rfl rfl rfl rfl rfl ?_ | refine w_end16 rfl rfl rfl rfl rfl rfl rfl rfl rfl rfl rfl rfl rfl rfl rfl rfl ?_)
            | ((refine i_cons ?_); first
              | (refine k_call rfl (call24 _ _ _ ys xs (IsSl.ext (IsSl.ext (IsSl.ext b7 y2) e13) e14) (IsSl.ext (IsSl.ext (IsSl.ext a7 y2) e13) e14) (my.mono (by omega)) (mx.mono (by omega))) ?_; rintro v h15 ⟨c2, rfl, d2, e15⟩)
              | refine k_skip rfl ?_
              | refine k_want rfl ?_
              | refine k_mv rfl ?_
              | refine k_pickT rfl rfl ?_
              | refine k_pickF rfl rfl ?_
              | refine k_notT rfl ?_
              | refine k_notF rfl ?_
              | refine k_add rfl rfl (by omega) ?_
              | refine k_sub rfl rfl (by omega) ?_
              | refine k_mul rfl rfl (by omega) ?_
              | refine k_neg rfl (by omega) ?_
              | refine k_quo rfl rfl (by omega) ?_
              | refine k_rem rfl rfl (by omega) ?_
              | refine k_conv rfl (by omega) ?_
              | refine k_max rfl rfl ?_
              | refine k_min rfl rfl ?_
              | refine k_lssT rfl rfl (by omega) ?_
              | refine k_lssF rfl rfl (by omega) ?_
              | refine k_lss rfl rfl (fun hc => ?_) (fun hc => ?_)
              | refine k_leqT rfl rfl (by omega) ?_
              | refine k_leqF rfl rfl (by omega) ?_
              | refine k_leq rfl rfl (fun hc => ?_) (fun hc => ?_)
              | refine k_gtrT rfl rfl (by omega) ?_
              | refine k_gtrF rfl rfl (by omega) ?_
              | refine k_gtr rfl rfl (fun hc => ?_) (fun hc => ?_)
              | refine k_geqT rfl rfl (by omega) ?_
              | refine k_geqF rfl rfl (by omega) ?_
              | refine k_geq rfl rfl (fun hc => ?_) (fun hc => ?_)
              | refine k_eqlT rfl rfl (by omega) ?_
              | refine k_eqlF rfl rfl (by omega) ?_
              | refine k_eql rfl rfl (fun hc => ?_) (fun hc => ?_)
              | refine k_neqT rfl rfl (by omega) ?_
              | refine k_neqF rfl rfl (by omega) ?_
              | refine k_neq rfl rfl (fun hc => ?_) (fun hc => ?_)
              | refine k_len rfl rfl ?_
              | refine k_ok rfl rfl ?_))
          obtain rfl : c2 = c1 := Bool.eq_iff_iff.2 (d2.trans (Iff.trans ⟨Conj.symm, Conj.symm⟩ d1.symm))
          cases c2
          · repeat' (first
   | refine w_seq ?_
   | refine w_seqN ?_
   | refine w_seqX ?_
   | refine w_seqR ?_
   | refine w_blk ?_
   | refine w_blkN ?_
   | refine w_blkX ?_
   | refine w_blkR ?_
   | refine w_skip ?_
   | refine w_ret ?_
   | refine w_exit ?_
   | refine w_ops ?_
   | refine w_opsD ?_
   | refine d_one ?_
   | refine d_nil ?_
   | ((refine i_cond ?_); first | refine w_condT rfl ?_ | refine w_condF rfl ?_)
   | ((refine i_nil ?_); first | refine d_same ?_ | refine d_ord ?_ | refine d_ext ⟨_, rfl⟩ ?_ | refine d_ext (by assumption) ?_ | refine w_end0 ?_ | refine w_end1 rfl ?_ | refine w_end2 rfl rfl ?_ | refine w_end3 rfl rfl rfl ?_ | refine w_end4 rfl rfl rfl rfl ?_ | refine w_end5 rfl rfl rfl rfl rfl ?_ | refine w_end6 rfl rfl rfl rfl rfl rfl ?_ | refine w_end7 rfl rfl rfl rfl rfl rfl rfl ?_ | refine w_end8 rfl rfl rfl rfl rfl rfl rfl rfl ?_ | refine w_end9 rfl rfl rfl rfl rfl rfl rfl rfl rfl ?_ | refine w_end10 rfl rfl rfl rfl rfl rfl rfl rfl rfl rfl ?_ | refine w_end11 rfl rfl rfl rfl rfl rfl rfl rfl rfl rfl rfl ?_ | refine w_end12 rfl rfl rfl rfl rfl rfl rfl rfl rfl rfl rfl rfl ?_ | refine w_end13 rfl rfl rfl rfl rfl rfl rfl rfl rfl rfl rfl rfl rfl ?_ | refine w_end14 rfl rfl rfl rfl rfl rfl rfl rfl rfl rfl rfl rfl rfl rfl ?_ | refine w_end15 rfl rfl rfl rfl rfl rfl rfl rfl rfl rfl rfl rfl rfl rfl rfl ?_ | refine w_end16 rfl rfl rfl rfl rfl rfl rfl rfl rfl rfl rfl rfl rfl rfl rfl rfl ?_)
   | ((refine i_cons ?_); first
     | refine k_skip rfl ?_
     | refine k_want rfl ?_
     | refine k_mv rfl ?_
     | refine k_pickT rfl rfl ?_
     | refine k_pickF rfl rfl ?_
     | refine k_notT rfl ?_
     | refine k_notF rfl ?_
     | refine k_add rfl rfl (by omega) ?_
     | refine k_sub rfl rfl (by omega) ?_
     | refine k_mul rfl rfl (by omega) ?_
     | refine k_neg rfl (by omega) ?_
     | refine k_quo rfl rfl (by omega) ?_
     | refine k_rem rfl rfl (by omega) ?_
     | refine k_conv rfl (by omega) ?_
     | refine k_max rfl rfl ?_
     | refine k_min rfl rfl ?_
     | refine k_lssT rfl rfl (by omega) ?_
     | refine k_lssF rfl rfl (by omega) ?_
     | refine k_lss rfl rfl (fun hc => ?_) (fun hc => ?_)
     | refine k_leqT rfl rfl (by omega) ?_
     | refine k_leqF rfl rfl (by omega) ?_
     | refine k_leq rfl rfl (fun hc => ?_) (fun hc => ?_)
     | refine k_gtrT rfl rfl (by omega) ?_
     | refine k_gtrF rfl rfl (by omega) ?_
     | refine k_gtr rfl rfl (fun hc => ?_) (fun hc => ?_)
     | refine k_geqT rfl rfl (by omega) ?_
     | refine k_geqF rfl rfl (by omega) ?_
     | refine k_geq rfl rfl (fun hc => ?_) (fun hc => ?_)
     | refine k_eqlT rfl rfl (by omega) ?_
     | refine k_eqlF rfl rfl (by omega) ?_
     | refine k_eql rfl rfl (fun hc => ?_) (fun hc => ?_)
     | refine k_neqT rfl rfl (by omega) ?_
     | refine k_neqF rfl rfl (by omega) ?_
     | refine k_neq rfl rfl (fun hc => ?_) (fun hc => ?_)
     | refine k_len rfl rfl ?_
     | refine k_ok rfl rfl ?_))
            exact ⟨.inr rfl, rfl⟩
          · repeat' (first
   | refine w_seq ?_
   | refine w_seqN ?_
   | refine w_seqX ?_
   | refine w_seqR ?_
   | refine w_blk ?_
   | refine w_blkN ?_
   | refine w_blkX ?_
   | refine w_blkR ?_
   | refine w_skip ?_
   | refine w_ret ?_
   | refine w_exit ?_
   | refine w_ops ?_
   | refine w_opsD ?_
   | refine d_one ?_
   | refine d_nil ?_
   | ((refine i_cond ?_); first | refine w_condT rfl ?_ | refine w_condF rfl ?_)
   | ((refine i_nil ?_); first | refine d_same ?_ | refine d_ord ?_ | refine d_ext ⟨_, rfl⟩ ?_ | refine d_ext (by assumption) ?_ | refine w_end0 ?_ | refine w_end1 rfl ?_ | refine w_end2 rfl rfl ?_ | refine w_end3 rfl rfl rfl ?_ | refine w_end4 rfl rfl rfl rfl ?_ | refine w_end5 rfl rfl rfl rfl rfl ?_ | refine w_end6 rfl rfl rfl rfl rfl rfl ?_ | refine w_end7 rfl rfl rfl rfl rfl rfl rfl ?_ | refine w_end8 rfl rfl rfl rfl rfl rfl rfl rfl ?_ | refine w_end9 rfl rfl rfl rfl rfl rfl rfl rfl rfl ?_ | refine w_end10 rfl rfl rfl rfl rfl rfl rfl rfl rfl rfl ?_ | refine w_end11 rfl rfl rfl rfl rfl rfl rfl rfl rfl rfl rfl ?_ | refine w_end12 rfl rfl rfl rfl rfl rfl rfl rfl rfl rfl rfl rfl ?_ | refine w_end13 rfl rfl rfl rfl rfl rfl rfl rfl rfl rfl rfl rfl rfl ?_ | refine w_end14 rfl rfl rfl rfl rfl rfl rfl rfl rfl rfl rfl rfl rfl rfl ?_ | refine w_end15 rfl rfl rfl rfl rfl rfl rfl rfl rfl rfl rfl rfl rfl rfl rfl ?_ | refine w_end16 rfl rfl rfl rfl rfl rfl rfl rfl rfl rfl rfl rfl rfl rfl rfl rfl ?_)
   | ((refine i_cons ?_); first
     | refine k_skip rfl ?_
     | refine k_want rfl ?_
     | refine k_mv rfl ?_
     | refine k_pickT rfl rfl ?_
     | refine k_pickF rfl rfl ?_
     | refine k_notT rfl ?_
     | refine k_notF rfl ?_
     | refine k_add rfl rfl (by omega) ?_
     | refine k_sub rfl rfl (by omega) ?_
     | refine k_mul rfl rfl (by omega) ?_
     | refine k_neg rfl (by omega) ?_
     | refine k_quo rfl rfl (by omega) ?_
     | refine k_rem rfl rfl (by omega) ?_
     | refine k_conv rfl (by omega) ?_
     | refine k_max rfl rfl ?_
     | refine k_min rfl rfl ?_
     | refine k_lssT rfl rfl (by omega) ?_
     | refine k_lssF rfl rfl (by omega) ?_
     | refine k_lss rfl rfl (fun hc => ?_) (fun hc => ?_)
     | refine k_leqT rfl rfl (by omega) ?_
     | refine k_leqF rfl rfl (by omega) ?_
     | refine k_leq rfl rfl (fun hc => ?_) (fun hc => ?_)
     | refine k_gtrT rfl rfl (by omega) ?_
     | refine k_gtrF rfl rfl (by omega) ?_
     | refine k_gtr rfl rfl (fun hc => ?_) (fun hc => ?_)
     | refine k_geqT rfl rfl (by omega) ?_
     | refine k_geqF rfl rfl (by omega) ?_
     | refine k_geq rfl rfl (fun hc => ?_) (fun hc => ?_)
     | refine k_eqlT rfl rfl (by omega) ?_
     | refine k_eqlF rfl rfl (by omega) ?_
     | refine k_eql rfl rfl (fun hc => ?_) (fun hc => ?_)
     | refine k_neqT rfl rfl (by omega) ?_
     | refine k_neqF rfl rfl (by omega) ?_
     | refine k_neq rfl rfl (fun hc => ?_) (fun hc => ?_)
     | refine k_len rfl rfl ?_
     | refine k_ok rfl rfl ?_))
            exact ⟨.inr rfl, rfl⟩
      · skip
        repeat' (first
          | refine w_seq ?_
          | refine w_seqN ?_
          | refine w_seqX ?_
          | refine w_seqR ?_
          | refine w_blk ?_
          | refine w_blkN ?_
          | refine w_blkX ?_
          | refine w_blkR ?_
          | refine w_skip ?_
          | refine w_ret ?_
          | refine w_exit ?_
          | refine w_ops ?_
          | refine w_opsD ?_
          | refine d_one ?_
          | refine d_nil ?_
          | ((refine i_cond ?_); first | refine w_condT rfl ?_ | refine w_condF rfl ?_)
          | ((refine i_nil ?_); first | refine d_same ?_ | refine d_ord ?_ | refine d_ext ⟨_, rfl⟩ ?_ | refine d_ext (by assumption) ?_ | refine w_end0 ?_ | refine w_end1 rfl ?_ | refine w_end2 rfl rfl ?_ | refine w_end3 rfl rfl rfl ?_ | refine w_end4 rfl rfl rfl rfl ?_ | refine w_end5 rfl rfl rfl rfl rfl ?_ | refine w_end6 rfl rfl rfl rfl rfl rfl ?_ | refine w_end7 rfl rfl rfl rfl rfl rfl rfl ?_ | refine w_end8 rfl rfl rfl rfl rfl rfl rfl rfl ?_ | refine w_end9 rfl rfl rfl rfl rfl rfl rfl rfl rfl ?_ | refine w_end10 rfl rfl rfl rfl rfl rfl rfl rfl rfl rfl ?_ | refine w_end11 rfl rfl rfl rfl rfl rfl rfl rfl rfl rfl rfl ?_ | refine w_end12 rfl rfl rfl rfl rfl rfl rfl rfl rfl rfl rfl rfl ?_ | refine w_end13 rfl rfl rfl rfl rfl rfl rfl rfl rfl rfl rfl rfl rfl ?_ | refine w_end14 rfl rfl rfl rfl rfl rfl rfl rfl rfl rfl rfl rfl rfl rfl ?_ | refine w_end15 rfl rfl rfl rfl rfl rfl rfl rfl rfl rfl rfl rfl rfl rfl rfl ?_ | refine w_end16 rfl rfl rfl rfl rfl rfl rfl rfl rfl rfl rfl rfl rfl rfl rfl rfl ?_)
          | ((refine i_cons ?_); first
            | refine k_len rfl hln ?_
            | (refine k_call rfl (redC c3 (mc.mono (by omega))) ?_; rintro v h4 ⟨s9, rfl, i9, e4⟩)
            | refine k_skip rfl ?_
            | refine k_want rfl ?_
            | refine k_mv rfl ?_
            | refine k_pickT rfl rfl ?_
            | refine k_pickF rfl rfl ?_
            | refine k_notT rfl ?_
            | refine k_notF rfl ?_
            | refine k_add rfl rfl (by omega) ?_
            | refine k_sub rfl rfl (by omega) ?_
            | refine k_mul rfl rfl (by omega) ?_
            | refine k_neg rfl (by omega) ?_
            | refine k_quo rfl rfl (by omega) ?_
            | refine k_rem rfl rfl (by omega) ?_
            | refine k_conv rfl (by omega) ?_
            | refine k_max rfl rfl ?_
            | refine k_min rfl rfl ?_
            | refine k_lssT rfl rfl (by omega) ?_
            | refine k_lssF rfl rfl (by omega) ?_
            | refine k_lss rfl rfl (fun hc => ?_) (fun hc => ?_)
            | refine k_leqT rfl rfl (by omega) ?_
            | refine k_leqF rfl rfl (by omega) ?_
            | refine k_leq rfl rfl (fun hc => ?_) (fun hc => ?_)
            | refine k_gtrT rfl rfl (by omega) ?_
            | refine k_gtrF rfl rfl (by omega) ?_
            | refine k_gtr rfl rfl (fun hc => ?_) (fun hc => ?_)
            | refine k_geqT rfl rfl (by omega) ?_
            | refine k_geqF rfl rfl (by omega) ?_
            | refine k_geq rfl rfl (fun hc => ?_) (fun hc => ?_)
            | refine k_eqlT rfl rfl (by omega) ?_
            | refine k_eqlF rfl rfl (by omega) ?_
            | refine k_eql rfl rfl (fun hc => ?_) (fun hc => ?_)
            | refine k_neqT rfl rfl (by omega) ?_
            | refine k_neqF rfl rfl (by omega) ?_
            | refine k_neq rfl rfl (fun hc => ?_) (fun hc => ?_)
            | refine k_len rfl rfl ?_
            | refine k_ok rfl rfl ?_))
        all_goals first
          | (exfalso; omega)
          | skip
        rw [f1] at i9
        repeat' (first
          | refine w_seq ?_
          | refine w_seqN ?_
          | refine w_seqX ?_
          | refine w_seqR ?_
          | refine w_blk ?_
          | refine w_blkN ?_
          | refine w_blkX ?_
          | refine w_blkR ?_
          | refine w_skip ?_
          | refine w_ret ?_
          | refine w_exit ?_
          | refine w_ops ?_
          | refine w_opsD ?_
          | refine d_one ?_
          | refine d_nil ?_
          | ((refine i_cond ?_); first | refine w_condT rfl ?_ | refine w_condF rfl ?_)
          | ((refine i_nil ?_); first | refine d_same ?_ | refine d_ord ?_ | refine d_ext ⟨_, rfl⟩ ?_ | refine d_ext (by assumption) ?_ | refine w_end0 ?_ | refine w_end1 rfl ?_ | refine w_end2 rfl rfl ?_ | refine w_end3 rfl rfl rfl ?_ | refine w_end4 rfl rfl rfl rfl ?_ | refine w_end5 rfl rfl rfl rfl rfl ?_ | refine w_end6 rfl rfl rfl rfl rfl rfl ?_ | refine w_end7 rfl rfl rfl rfl rfl rfl rfl ?_ | refine w_end8 rfl rfl rfl rfl rfl rfl rfl rfl ?_ | refine w_end9 rfl rfl rfl rfl rfl rfl rfl rfl rfl ?_ | refine w_end10 rfl rfl rfl rfl rfl rfl rfl rfl rfl rfl ?_ | refine w_end11 rfl rfl rfl rfl rfl rfl rfl rfl rfl rfl rfl ?_ | refine w_end12 rfl rfl rfl rfl rfl rfl rfl rfl rfl rfl rfl rfl ?_ | refine w_end13 rfl rfl rfl rfl rfl rfl rfl rfl rfl rfl rfl rfl rfl ?_ | refine w_end14 rfl rfl rfl rfl rfl rfl rfl rfl rfl rfl rfl rfl rfl rfl ?_ | refine w_end15 rfl rfl rfl rfl rfl rfl rfl rfl rfl rfl rfl rfl rfl rfl rfl ?_ | refine w_end16 rfl rfl rfl rfl rfl rfl rfl rfl rfl rfl rfl rfl rfl rfl rfl rfl ?_)
          | ((refine i_cons ?_); first
            | (refine k_call rfl (sameC i9 (IsSl.ext c3 e4) (by omega)) ?_; rintro v h' ⟨rfl, rfl⟩)
            | (refine k_call rfl (call24T (IsSl.ext a3 e4) (IsSl.ext i8 e4) (mx.mono (by omega)) (mX.mono (by omega)) hcX) ?_; rintro v h5 ⟨rfl, e5⟩)
            | refine k_skip rfl ?_
            | refine k_want rfl ?_
            | refine k_mv rfl ?_
            | refine k_pickT rfl rfl ?_
            | refine k_pickF rfl rfl ?_
            | refine k_notT rfl ?_
            | refine k_notF rfl ?_
            | refine k_add rfl rfl (by omega) ?_
            | refine k_sub rfl rfl (by omega) ?_
            | refine k_mul rfl rfl (by omega) ?_
            | refine k_neg rfl (by omega) ?_
            | refine k_quo rfl rfl (by omega) ?_
            | refine k_rem rfl rfl (by omega) ?_
            | refine k_conv rfl (by omega) ?_
            | refine k_max rfl rfl ?_
            | refine k_min rfl rfl ?_
            | refine k_lssT rfl rfl (by omega) ?_
            | refine k_lssF rfl rfl (by omega) ?_
            | refine k_lss rfl rfl (fun hc => ?_) (fun hc => ?_)
            | refine k_leqT rfl rfl (by omega) ?_
            | refine k_leqF rfl rfl (by omega) ?_
            | refine k_leq rfl rfl (fun hc => ?_) (fun hc => ?_)
            | refine k_gtrT rfl rfl (by omega) ?_
            | refine k_gtrF rfl rfl (by omega) ?_
            | refine k_gtr rfl rfl (fun hc => ?_) (fun hc => ?_)
            | refine k_geqT rfl rfl (by omega) ?_
            | refine k_geqF rfl rfl (by omega) ?_
            | refine k_geq rfl rfl (fun hc => ?_) (fun hc => ?_)
            | refine k_eqlT rfl rfl (by omega) ?_
            | refine k_eqlF rfl rfl (by omega) ?_
            | refine k_eql rfl rfl (fun hc => ?_) (fun hc => ?_)
            | refine k_neqT rfl rfl (by omega) ?_
            | refine k_neqF rfl rfl (by omega) ?_
            | refine k_neq rfl rfl (fun hc => ?_) (fun hc => ?_)
            | refine k_len rfl rfl ?_
            | refine k_ok rfl rfl ?_))
        have x5 := IsSl.ext (IsSl.ext i8 e4) e5
        have c5 := IsSl.ext (IsSl.ext c3 e4) e5
        have a5 := IsSl.ext (IsSl.ext a3 e4) e5
        have b5 := IsSl.ext (IsSl.ext b3 e4) e5
        repeat' (first
          | refine w_seq ?_
          | refine w_seqN ?_
          | refine w_seqX ?_
          | refine w_seqR ?_
          | refine w_blk ?_
          | refine w_blkN ?_
          | refine w_blkX ?_
          | refine w_blkR ?_
          | refine w_skip ?_
          | refine w_ret ?_
          | refine w_exit ?_
          | refine w_ops ?_
          | refine w_opsD ?_
          | refine d_one ?_
          | refine d_nil ?_
          | ((refine i_cond ?_); first | refine w_condT rfl ?_ | refine w_condF rfl ?_)
          | ((refine i_nil ?_); first | refine d_same ?_ | refine d_ord ?_ | refine d_ext ⟨_, rfl⟩ ?_ | refine d_ext (by assumption) ?_ | refine w_end0 ?_ | refine w_end1 rfl ?_ | refine w_end2 rfl rfl ?_ | refine w_end3 rfl rfl rfl ?_ | refine w_end4 rfl rfl rfl rfl ?_ | refine w_end5 rfl rfl rfl rfl rfl ?_ | refine w_end6 rfl rfl rfl rfl rfl rfl ?_ | refine w_end7 rfl rfl rfl rfl rfl rfl rfl ?_ | refine w_end8 rfl rfl rfl rfl rfl rfl rfl rfl ?_ | refine w_end9 rfl rfl rfl rfl rfl rfl rfl rfl rfl ?_ | refine w_end10 rfl rfl rfl rfl rfl rfl rfl rfl rfl rfl ?_ | refine w_end11 rfl rfl rfl rfl rfl rfl rfl rfl rfl rfl rfl ?_ | refine w_end12 rfl rfl rfl rfl rfl rfl rfl rfl rfl rfl rfl rfl ?_ | refine w_end13 rfl rfl rfl rfl rfl rfl rfl rfl rfl rfl rfl rfl rfl ?_ | refine w_end14 rfl rfl rfl rfl rfl rfl rfl rfl rfl rfl rfl rfl rfl rfl ?_ | refine w_end15 rfl rfl rfl rfl rfl rfl rfl rfl rfl rfl rfl rfl rfl rfl rfl ?_ | refine w_end16 rfl rfl rfl rfl rfl rfl rfl rfl rfl rfl rfl rfl rfl rfl rfl rfl ?_)
          | ((refine i_cons ?_); first
            | (refine k_call rfl (call21 (HK := HK2) rfl rfl rfl rfl _ s8 _ x5 (mX.mono (by omega))) ?_; rintro v h6 ⟨s10, r6, rfl, i10, e6, u10⟩)
            | refine k_skip rfl ?_
            | refine k_want rfl ?_
            | refine k_mv rfl ?_
            | refine k_pickT rfl rfl ?_
            | refine k_pickF rfl rfl ?_
            | refine k_notT rfl ?_
            | refine k_notF rfl ?_
            | refine k_add rfl rfl (by omega) ?_
            | refine k_sub rfl rfl (by omega) ?_
            | refine k_mul rfl rfl (by omega) ?_
            | refine k_neg rfl (by omega) ?_
            | refine k_quo rfl rfl (by omega) ?_
            | refine k_rem rfl rfl (by omega) ?_
            | refine k_conv rfl (by omega) ?_
            | refine k_max rfl rfl ?_
            | refine k_min rfl rfl ?_
            | refine k_lssT rfl rfl (by omega) ?_
            | refine k_lssF rfl rfl (by omega) ?_
            | refine k_lss rfl rfl (fun hc => ?_) (fun hc => ?_)
            | refine k_leqT rfl rfl (by omega) ?_
            | refine k_leqF rfl rfl (by omega) ?_
            | refine k_leq rfl rfl (fun hc => ?_) (fun hc => ?_)
            | refine k_gtrT rfl rfl (by omega) ?_
            | refine k_gtrF rfl rfl (by omega) ?_
            | refine k_gtr rfl rfl (fun hc => ?_) (fun hc => ?_)
            | refine k_geqT rfl rfl (by omega) ?_
            | refine k_geqF rfl rfl (by omega) ?_
            | refine k_geq rfl rfl (fun hc => ?_) (fun hc => ?_)
            | refine k_eqlT rfl rfl (by omega) ?_
            | refine k_eqlF rfl rfl (by omega) ?_
            | refine k_eql rfl rfl (fun hc => ?_) (fun hc => ?_)
            | refine k_neqT rfl rfl (by omega) ?_
            | refine k_neqF rfl rfl (by omega) ?_
            | refine k_neq rfl rfl (fun hc => ?_) (fun hc => ?_)
            | refine k_len rfl rfl ?_
            | refine k_ok rfl rfl ?_))
        obtain rfl : r6 = c := by
          obtain ⟨r, g1, g2⟩ := hcX
          rw [u7.uniq g1, u10.uniq g2]
        repeat' (first
          | refine w_seq ?_
          | refine w_seqN ?_
          | refine w_seqX ?_
          | refine w_seqR ?_
          | refine w_blk ?_
          | refine w_blkN ?_
          | refine w_blkX ?_
          | refine w_blkR ?_
          | refine w_skip ?_
          | refine w_ret ?_
          | refine w_exit ?_
          | refine w_ops ?_
          | refine w_opsD ?_
          | refine d_one ?_
          | refine d_nil ?_
          | ((refine i_cond ?_); first | refine w_condT rfl ?_ | refine w_condF rfl ?_)
          | ((refine i_nil ?_); first | refine d_same ?_ | refine d_ord ?_ | refine d_ext ⟨_, rfl⟩ ?_ | refine d_ext (by assumption) ?_ | refine w_end0 ?_ | refine w_end1 rfl ?_ | refine w_end2 rfl rfl ?_ | refine w_end3 rfl rfl rfl ?_ | refine w_end4 rfl rfl rfl rfl ?_ | refine w_end5 rfl rfl rfl rfl rfl ?_ | refine w_end6 rfl rfl rfl rfl rfl rfl ?_ | refine w_end7 rfl rfl rfl rfl rfl rfl rfl ?_ | refine w_end8 rfl rfl rfl rfl rfl rfl rfl rfl ?_ | refine w_end9 rfl rfl rfl rfl rfl rfl rfl rfl rfl ?_ | refine w_end10 rfl rfl rfl rfl rfl rfl rfl rfl rfl rfl ?_ | refine w_end11 rfl rfl rfl rfl rfl rfl rfl rfl rfl rfl rfl ?_ | refine w_end12 rfl rfl rfl rfl rfl rfl rfl rfl rfl rfl rfl rfl ?_ | refine w_end13 rfl rfl rfl rfl rfl rfl rfl rfl rfl rfl rfl rfl rfl ?_ | refine w_end14 rfl rfl rfl rfl rfl rfl rfl rfl rfl rfl rfl rfl rfl rfl ?_ | refine w_end15 rfl rfl rfl rfl rfl rfl rfl rfl rfl rfl rfl rfl rfl rfl rfl ?_ | refine w_end16 rfl rfl rfl rfl rfl rfl rfl rfl rfl rfl rfl rfl rfl rfl rfl rfl ?_)
          | ((refine i_cons ?_); first
            | (refine k_call rfl (sameC i10 (IsSl.ext c5 e6) (by omega)) ?_; rintro v h' ⟨rfl, rfl⟩)
            | (refine k_call rfl (call24T (IsSl.ext c5 e6) (IsSl.ext a5 e6) (mc.mono (by omega)) (mx.mono (by omega)) (conj_form u7)) ?_; rintro v h7 ⟨rfl, e7⟩)
            | refine k_skip rfl ?_
            | refine k_want rfl ?_
            | refine k_mv rfl ?_
            | refine k_pickT rfl rfl ?_
            | refine k_pickF rfl rfl ?_
            | refine k_notT rfl ?_
            | refine k_notF rfl ?_
            | refine k_add rfl rfl (by omega) ?_
            | refine k_sub rfl rfl (by omega) ?_
            | refine k_mul rfl rfl (by omega) ?_
            | refine k_neg rfl (by omega) ?_
            | refine k_quo rfl rfl (by omega) ?_
            | refine k_rem rfl rfl (by omega) ?_
            | refine k_conv rfl (by omega) ?_
            | refine k_max rfl rfl ?_
            | refine k_min rfl rfl ?_
            | refine k_lssT rfl rfl (by omega) ?_
            | refine k_lssF rfl rfl (by omega) ?_
            | refine k_lss rfl rfl (fun hc => ?_) (fun hc => ?_)
            | refine k_leqT rfl rfl (by omega) ?_
            | refine k_leqF rfl rfl (by omega) ?_
            | refine k_leq rfl rfl (fun hc => ?_) (fun hc => ?_)
            | refine k_gtrT rfl rfl (by omega) ?_
            | refine k_gtrF rfl rfl (by omega) ?_
            | refine k_gtr rfl rfl (fun hc => ?_) (fun hc => ?_)
            | refine k_geqT rfl rfl (by omega) ?_
            | refine k_geqF rfl rfl (by omega) ?_
            | refine k_geq rfl rfl (fun hc => ?_) (fun hc => ?_)
            | refine k_eqlT rfl rfl (by omega) ?_
            | refine k_eqlF rfl rfl (by omega) ?_
            | refine k_eql rfl rfl (fun hc => ?_) (fun hc => ?_)
            | refine k_neqT rfl rfl (by omega) ?_
            | refine k_neqF rfl rfl (by omega) ?_
            | refine k_neq rfl rfl (fun hc => ?_) (fun hc => ?_)
            | refine k_len rfl rfl ?_
            | refine k_ok rfl rfl ?_))
        have a7 := IsSl.ext (IsSl.ext a5 e6) e7
        have b7 := IsSl.ext (IsSl.ext b5 e6) e7
        have hla := IsSl.len a7
        have hrem : 0 < xs.length → (0 : Int) ≤ u % (xs.length : Int) ∧ u % (xs.length : Int) < xs.length := fun h => ⟨Int.emod_nonneg _ (by omega), Int.emod_lt_of_pos _ (by omega)⟩
        by_cases h0x : 0 < xs.length
        · have hrem2 := hrem h0x
          repeat' (first
            | refine w_seq ?_
            | refine w_seqN ?_
            | refine w_seqX ?_
            | refine w_seqR ?_
            | refine w_blk ?_
            | refine w_blkN ?_
            | refine w_blkX ?_
            | refine w_blkR ?_
            | refine w_skip ?_
            | refine w_ret ?_
            | refine w_exit ?_
            | refine w_ops ?_
            | refine w_opsD ?_
            | refine d_one ?_
            | refine d_nil ?_
            | ((refine i_cond ?_); first | refine w_condT rfl ?_ | refine w_condF rfl ?_)
            | ((refine i_nil ?_); first | refine d_same ?_ | refine d_ord ?_ | refine d_ext ⟨_, rfl⟩ ?_ | refine d_ext (by assumption) ?_ | refine w_end0 ?_ | refine w_end1 rfl ?_ | refine w_end2 rfl rfl ?_ | refine w_end3 rfl rfl rfl ?_ | refine w_end4 rfl rfl rfl rfl ?_ | refine w_end5 rfl rfl rfl rfl rfl ?_ | refine w_end6 rfl rfl rfl rfl rfl rfl ?_ | refine w_end7 rfl rfl rfl rfl rfl rfl rfl ?_ | refine w_end8 rfl rfl rfl rfl rfl rfl rfl rfl ?_ | refine w_end9 rfl rfl rfl rfl rfl rfl rfl rfl rfl ?_ | refine w_end10 rfl rfl rfl rfl rfl rfl rfl rfl rfl rfl ?_ | refine w_end11 rfl rfl rfl rfl rfl rfl rfl rfl rfl rfl rfl ?_ | refine w_end12 rfl rfl rfl rfl rfl rfl rfl rfl rfl rfl rfl rfl ?_ | refine w_end13 rfl rfl rfl rfl rfl rfl rfl rfl rfl rfl rfl rfl rfl ?_ | refine w_end14 rfl rfl rfl rfl rfl rfl rfl rfl rfl rfl rfl rfl rfl rfl ?_ | refine w_end15 rfl rfl rfl rfl rfl rfl rfl rfl rfl rfl rfl rfl rfl rfl rfl ?_ | refine w_end16 rfl rfl rfl rfl rfl rfl rfl rfl rfl rfl rfl rfl rfl rfl rfl rfl ?_)
            | ((refine i_cons ?_); first
              | refine k_len rfl hla ?_
              | refine k_skip rfl ?_
              | refine k_want rfl ?_
              | refine k_mv rfl ?_
              | refine k_pickT rfl rfl ?_
              | refine k_pickF rfl rfl ?_
              | refine k_notT rfl ?_
              | refine k_notF rfl ?_
              | refine k_add rfl rfl (by omega) ?_
              | refine k_sub rfl rfl (by omega) ?_
              | refine k_mul rfl rfl (by omega) ?_
              | refine k_neg rfl (by omega) ?_
              | refine k_quo rfl rfl (by omega) ?_
              | refine k_rem rfl rfl (by omega) ?_
              | refine k_conv rfl (by omega) ?_
              | refine k_max rfl rfl ?_
              | refine k_min rfl rfl ?_
              | refine k_lssT rfl rfl (by omega) ?_
              | refine k_lssF rfl rfl (by omega) ?_
              | refine k_lss rfl rfl (fun hc => ?_) (fun hc => ?_)
              | refine k_leqT rfl rfl (by omega) ?_
              | refine k_leqF rfl rfl (by omega) ?_
              | refine k_leq rfl rfl (fun hc => ?_) (fun hc => ?_)
              | refine k_gtrT rfl rfl (by omega) ?_
              | refine k_gtrF rfl rfl (by omega) ?_
              | refine k_gtr rfl rfl (fun hc => ?_) (fun hc => ?_)
              | refine k_geqT rfl rfl (by omega) ?_
              | refine k_geqF rfl rfl (by omega) ?_
              | refine k_geq rfl rfl (fun hc => ?_) (fun hc => ?_)
              | refine k_eqlT rfl rfl (by omega) ?_
              | refine k_eqlF rfl rfl (by omega) ?_
              | refine k_eql rfl rfl (fun hc => ?_) (fun hc => ?_)
              | refine k_neqT rfl rfl (by omega) ?_
              | refine k_neqF rfl rfl (by omega) ?_
              | refine k_neq rfl rfl (fun hc => ?_) (fun hc => ?_)
              | refine k_len rfl rfl ?_
              | refine k_ok rfl rfl ?_))
          obtain ⟨k, hkk⟩ : ∃ k : Nat, u % (xs.length : Int) = k := ⟨_, (Int.toNat_of_nonneg hrem2.1).symm⟩
          rw [hkk] at hrem2 ⊢
          have f7 : Ext h7 (h7 ++ [Blk.cells (rep [SV.int .i64 0] 0) true 1]) := ⟨_, rfl⟩
          obtain ⟨p1, hp1, hp2, -⟩ := IsInts.part (l := k) (u := xs.length) (IsSl.ext a7 f7) (by omega) (by omega)
          have hbd : ∀ n : Nat, n ≤ 1000 → n * (8 + 1) ≤ bigN := fun n hn => by simp [bigN]; omega
          repeat' (first
            | refine w_seq ?_
            | refine w_seqN ?_
            | refine w_seqX ?_
            | refine w_seqR ?_
            | refine w_blk ?_
            | refine w_blkN ?_
            | refine w_blkX ?_
            | refine w_blkR ?_
            | refine w_skip ?_
            | refine w_ret ?_
            | refine w_exit ?_
            | refine w_ops ?_
            | refine w_opsD ?_
            | refine d_one ?_
            | refine d_nil ?_
            | ((refine i_cond ?_); first | refine w_condT rfl ?_ | refine w_condF rfl ?_)
            | ((refine i_nil ?_); first | refine d_same ?_ | refine d_ord ?_ | refine d_ext ⟨_, rfl⟩ ?_ | refine d_ext (by assumption) ?_ | refine w_end0 ?_ | refine w_end1 rfl ?_ | refine w_end2 rfl rfl ?_ | refine w_end3 rfl rfl rfl ?_ | refine w_end4 rfl rfl rfl rfl ?_ | refine w_end5 rfl rfl rfl rfl rfl ?_ | refine w_end6 rfl rfl rfl rfl rfl rfl ?_ | refine w_end7 rfl rfl rfl rfl rfl rfl rfl ?_ | refine w_end8 rfl rfl rfl rfl rfl rfl rfl rfl ?_ | refine w_end9 rfl rfl rfl rfl rfl rfl rfl rfl rfl ?_ | refine w_end10 rfl rfl rfl rfl rfl rfl rfl rfl rfl rfl ?_ | refine w_end11 rfl rfl rfl rfl rfl rfl rfl rfl rfl rfl rfl ?_ | refine w_end12 rfl rfl rfl rfl rfl rfl rfl rfl rfl rfl rfl rfl ?_ | refine w_end13 rfl rfl rfl rfl rfl rfl rfl rfl rfl rfl rfl rfl rfl ?_ | refine w_end14 rfl rfl rfl rfl rfl rfl rfl rfl rfl rfl rfl rfl rfl rfl ?_ | refine w_end15 rfl rfl rfl rfl rfl rfl rfl rfl rfl rfl rfl rfl rfl rfl rfl ?_ | refine w_end16 rfl rfl rfl rfl rfl rfl rfl rfl rfl rfl rfl rfl rfl rfl rfl rfl ?_)
            | ((refine i_cons ?_); first
              | refine k_from rfl hla rfl (by omega) hp1 ?_
              | (refine k_app0 f7 (Ab.Own.lit0 _) rfl rfl (IsInts.src hp2) (hbd _ (by simp; omega)) ?_; intro s11 h8 q1 q2 q3)
              | refine k_skip rfl ?_
              | refine k_want rfl ?_
              | refine k_mv rfl ?_
              | refine k_pickT rfl rfl ?_
              | refine k_pickF rfl rfl ?_
              | refine k_notT rfl ?_
              | refine k_notF rfl ?_
              | refine k_add rfl rfl (by omega) ?_
              | refine k_sub rfl rfl (by omega) ?_
              | refine k_mul rfl rfl (by omega) ?_
              | refine k_neg rfl (by omega) ?_
              | refine k_quo rfl rfl (by omega) ?_
              | refine k_rem rfl rfl (by omega) ?_
              | refine k_conv rfl (by omega) ?_
              | refine k_max rfl rfl ?_
              | refine k_min rfl rfl ?_
              | refine k_lssT rfl rfl (by omega) ?_
              | refine k_lssF rfl rfl (by omega) ?_
              | refine k_lss rfl rfl (fun hc => ?_) (fun hc => ?_)
              | refine k_leqT rfl rfl (by omega) ?_
              | refine k_leqF rfl rfl (by omega) ?_
              | refine k_leq rfl rfl (fun hc => ?_) (fun hc => ?_)
              | refine k_gtrT rfl rfl (by omega) ?_
              | refine k_gtrF rfl rfl (by omega) ?_
              | refine k_gtr rfl rfl (fun hc => ?_) (fun hc => ?_)
              | refine k_geqT rfl rfl (by omega) ?_
              | refine k_geqF rfl rfl (by omega) ?_
              | refine k_geq rfl rfl (fun hc => ?_) (fun hc => ?_)
              | refine k_eqlT rfl rfl (by omega) ?_
              | refine k_eqlF rfl rfl (by omega) ?_
              | refine k_eql rfl rfl (fun hc => ?_) (fun hc => ?_)
              | refine k_neqT rfl rfl (by omega) ?_
              | refine k_neqF rfl rfl (by omega) ?_
              | refine k_neq rfl rfl (fun hc => ?_) (fun hc => ?_)
              | refine k_len rfl rfl ?_
              | refine k_ok rfl rfl ?_))
          obtain ⟨p2, hp3, hp4, -⟩ := IsInts.part (l := 0) (u := k) (IsSl.ext a7 (f7.trans q2)) (by omega) (by omega)
          repeat' (first
            | refine w_seq ?_
            | refine w_seqN ?_
            | refine w_seqX ?_
            | refine w_seqR ?_
            | refine w_blk ?_
            | refine w_blkN ?_
            | refine w_blkX ?_
            | refine w_blkR ?_
            | refine w_skip ?_
            | refine w_ret ?_
            | refine w_exit ?_
            | refine w_ops ?_
            | refine w_opsD ?_
            | refine d_one ?_
            | refine d_nil ?_
            | ((refine i_cond ?_); first | refine w_condT rfl ?_ | refine w_condF rfl ?_)
            | ((refine i_nil ?_); first | refine d_same ?_ | refine d_ord ?_ | refine d_ext ⟨_, rfl⟩ ?_ | refine d_ext (by assumption) ?_ | refine w_end0 ?_ | refine w_end1 rfl ?_ | refine w_end2 rfl rfl ?_ | refine w_end3 rfl rfl rfl ?_ | refine w_end4 rfl rfl rfl rfl ?_ | refine w_end5 rfl rfl rfl rfl rfl ?_ | refine w_end6 rfl rfl rfl rfl rfl rfl ?_ | refine w_end7 rfl rfl rfl rfl rfl rfl rfl ?_ | refine w_end8 rfl rfl rfl rfl rfl rfl rfl rfl ?_ | refine w_end9 rfl rfl rfl rfl rfl rfl rfl rfl rfl ?_ | refine w_end10 rfl rfl rfl rfl rfl rfl rfl rfl rfl rfl ?_ | refine w_end11 rfl rfl rfl rfl rfl rfl rfl rfl rfl rfl rfl ?_ | refine w_end12 rfl rfl rfl rfl rfl rfl rfl rfl rfl rfl rfl rfl ?_ | refine w_end13 rfl rfl rfl rfl rfl rfl rfl rfl rfl rfl rfl rfl rfl ?_ | refine w_end14 rfl rfl rfl rfl rfl rfl rfl rfl rfl rfl rfl rfl rfl rfl ?_ | refine w_end15 rfl rfl rfl rfl rfl rfl rfl rfl rfl rfl rfl rfl rfl rfl rfl ?_ | refine w_end16 rfl rfl rfl rfl rfl rfl rfl rfl rfl rfl rfl rfl rfl rfl rfl rfl ?_)
            | ((refine i_cons ?_); first
              | refine k_to rfl hla rfl (by omega) hp3 ?_
              | (refine k_app (f7.trans q2) q1 rfl rfl (IsInts.src hp4) (hbd _ (by simp; omega)) ?_; intro s12 h9 w1 w2 w3 w4)
              | refine k_skip rfl ?_
              | refine k_want rfl ?_
              | refine k_mv rfl ?_
              | refine k_pickT rfl rfl ?_
              | refine k_pickF rfl rfl ?_
              | refine k_notT rfl ?_
              | refine k_notF rfl ?_
              | refine k_add rfl rfl (by omega) ?_
              | refine k_sub rfl rfl (by omega) ?_
              | refine k_mul rfl rfl (by omega) ?_
              | refine k_neg rfl (by omega) ?_
              | refine k_quo rfl rfl (by omega) ?_
              | refine k_rem rfl rfl (by omega) ?_
              | refine k_conv rfl (by omega) ?_
              | refine k_max rfl rfl ?_
              | refine k_min rfl rfl ?_
              | refine k_lssT rfl rfl (by omega) ?_
              | refine k_lssF rfl rfl (by omega) ?_
              | refine k_lss rfl rfl (fun hc => ?_) (fun hc => ?_)
              | refine k_leqT rfl rfl (by omega) ?_
              | refine k_leqF rfl rfl (by omega) ?_
              | refine k_leq rfl rfl (fun hc => ?_) (fun hc => ?_)
              | refine k_gtrT rfl rfl (by omega) ?_
              | refine k_gtrF rfl rfl (by omega) ?_
              | refine k_gtr rfl rfl (fun hc => ?_) (fun hc => ?_)
              | refine k_geqT rfl rfl (by omega) ?_
              | refine k_geqF rfl rfl (by omega) ?_
              | refine k_geq rfl rfl (fun hc => ?_) (fun hc => ?_)
              | refine k_eqlT rfl rfl (by omega) ?_
              | refine k_eqlF rfl rfl (by omega) ?_
              | refine k_eql rfl rfl (fun hc => ?_) (fun hc => ?_)
              | refine k_neqT rfl rfl (by omega) ?_
              | refine k_neqF rfl rfl (by omega) ?_
              | refine k_neq rfl rfl (fun hc => ?_) (fun hc => ?_)
              | refine k_len rfl rfl ?_
              | refine k_ok rfl rfl ?_))
          have hnew : ints (xs.drop k ++ xs.take k) = List.map (SV.int .i64) (List.take (xs.length - k) (List.drop k xs)) ++ List.map (SV.int .i64) (List.take (k - 0) (List.drop 0 xs)) := by
            simp [ints, List.take_of_length_le]
          rw [← hnew] at w1
          have hct := conj_turn (u := xs.take k) (v := xs.drop k) fun l hl => hnx l (List.mem_of_mem_take hl)
          rw [List.take_append_drop] at hct
          have mt : Mid 60 (xs.drop k ++ xs.take k) := ⟨by simp; omega, fun x hx => (List.mem_append.1 hx).elim (fun h => mx.2 x (List.mem_of_mem_drop h)) (fun h => mx.2 x (List.mem_of_mem_take h))⟩
          repeat' (first
            | refine w_seq ?_
            | refine w_seqN ?_
            | refine w_seqX ?_
            | refine w_seqR ?_
            | refine w_blk ?_
            | refine w_blkN ?_
            | refine w_blkX ?_
            | refine w_blkR ?_
            | refine w_skip ?_
            | refine w_ret ?_
            | refine w_exit ?_
            | refine w_ops ?_
            | refine w_opsD ?_
            | refine d_one ?_
            | refine d_nil ?_
            | ((refine i_cond ?_); first | refine w_condT rfl ?_ | refine w_condF rfl ?_)
            | ((refine i_nil ?_); first | refine d_same ?_ | refine d_ord ?_ | refine d_ext ⟨_, rfl⟩ ?_ | refine d_ext (by assumption) ?_ | refine w_end0 ?_ | refine w_end1 rfl ?_ | refine w_end2 rfl rfl ?_ | refine w_end3 rfl rfl rfl ?_ | refine w_end4 rfl rfl rfl rfl ?_ | refine w_end5 rfl rfl rfl rfl rfl ?_ | refine w_end6 rfl rfl rfl rfl rfl rfl ?_ | refine w_end7 rfl rfl rfl rfl rfl rfl rfl ?_ | refine w_end8 rfl rfl rfl rfl rfl rfl rfl rfl ?_ | refine w_end9 rfl rfl rfl rfl rfl rfl rfl rfl rfl ?_ | refine w_end10 rfl rfl rfl rfl rfl rfl rfl rfl rfl rfl ?_ | refine w_end11 rfl rfl rfl rfl rfl rfl rfl rfl rfl rfl rfl ?_ | refine w_end12 rfl rfl rfl rfl rfl rfl rfl rfl rfl rfl rfl rfl ?_ | refine w_end13 rfl rfl rfl rfl rfl rfl rfl rfl rfl rfl rfl rfl rfl ?_ | refine w_end14 rfl rfl rfl rfl rfl rfl rfl rfl rfl rfl rfl rfl rfl rfl ?_ | refine w_end15 rfl rfl rfl rfl rfl rfl rfl rfl rfl rfl rfl rfl rfl rfl rfl ?_ | refine w_end16 rfl rfl rfl rfl rfl rfl rfl rfl rfl rfl rfl rfl rfl rfl rfl rfl ?_)
            | ((refine i_cons ?_); first
              | (refine k_call rfl (call24T (IsSl.ext a7 w2) (Ab.Own.ids w1) (mx.mono (by omega)) (mt.mono (by omega)) hct) ?_; rintro v h10' ⟨rfl, e10⟩)
              | refine k_skip rfl ?_
              | refine k_want rfl ?_
              | refine k_mv rfl ?_
              | refine k_pickT rfl rfl ?_
              | refine k_pickF rfl rfl ?_
              | refine k_notT rfl ?_
              | refine k_notF rfl ?_
              | refine k_add rfl rfl (by omega) ?_
              | refine k_sub rfl rfl (by omega) ?_
              | refine k_mul rfl rfl (by omega) ?_
              | refine k_neg rfl (by omega) ?_
              | refine k_quo rfl rfl (by omega) ?_
              | refine k_rem rfl rfl (by omega) ?_
              | refine k_conv rfl (by omega) ?_
              | refine k_max rfl rfl ?_
              | refine k_min rfl rfl ?_
              | refine k_lssT rfl rfl (by omega) ?_
              | refine k_lssF rfl rfl (by omega) ?_
              | refine k_lss rfl rfl (fun hc => ?_) (fun hc => ?_)
              | refine k_leqT rfl rfl (by omega) ?_
              | refine k_leqF rfl rfl (by omega) ?_
              | refine k_leq rfl rfl (fun hc => ?_) (fun hc => ?_)
              | refine k_gtrT rfl rfl (by omega) ?_
              | refine k_gtrF rfl rfl (by omega) ?_
              | refine k_gtr rfl rfl (fun hc => ?_) (fun hc => ?_)
              | refine k_geqT rfl rfl (by omega) ?_
              | refine k_geqF rfl rfl (by omega) ?_
              | refine k_geq rfl rfl (fun hc => ?_) (fun hc => ?_)
              | refine k_eqlT rfl rfl (by omega) ?_
              | refine k_eqlF rfl rfl (by omega) ?_
              | refine k_eql rfl rfl (fun hc => ?_) (fun hc => ?_)
              | refine k_neqT rfl rfl (by omega) ?_
              | refine k_neqF rfl rfl (by omega) ?_
              | refine k_neq rfl rfl (fun hc => ?_) (fun hc => ?_)
              | refine k_len rfl rfl ?_
              | refine k_ok rfl rfl ?_))
          have a10 := IsSl.ext (IsSl.ext a7 w2) e10
          have b10 := IsSl.ext (IsSl.ext b7 w2) e10
          have g0 : Ext h10' (h10' ++ [Blk.cells (rep [SV.int .i64 0] 0) true 1]) := ⟨_, rfl⟩
          have hbe : ∀ n : Nat, n ≤ 1000 → n * (8 + 1) ≤ bigN := fun n hn => by simp [bigN]; omega
          repeat' (first
            | refine w_seq ?_
            | refine w_seqN ?_
            | refine w_seqX ?_
            | refine w_seqR ?_
            | refine w_blk ?_
            | refine w_blkN ?_
            | refine w_blkX ?_
            | refine w_blkR ?_
            | refine w_skip ?_
            | refine w_ret ?_
            | refine w_exit ?_
            | refine w_ops ?_
            | refine w_opsD ?_
            | refine d_one ?_
            | refine d_nil ?_
            | ((refine i_cond ?_); first | refine w_condT rfl ?_ | refine w_condF rfl ?_)
            | ((refine i_nil ?_); first | refine d_same ?_ | refine d_ord ?_ | refine d_ext ⟨_, rfl⟩ ?_ | refine d_ext (by assumption) ?_ | refine w_end0 ?_ | refine w_end1 rfl ?_ | refine w_end2 rfl rfl ?_ | refine w_end3 rfl rfl rfl ?_ | refine w_end4 rfl rfl rfl rfl ?_ | refine w_end5 rfl rfl rfl rfl rfl ?_ | refine w_end6 rfl rfl rfl rfl rfl rfl ?_ | refine w_end7 rfl rfl rfl rfl rfl rfl rfl ?_ | refine w_end8 rfl rfl rfl rfl rfl rfl rfl rfl ?_ | refine w_end9 rfl rfl rfl rfl rfl rfl rfl rfl rfl ?_ | refine w_end10 rfl rfl rfl rfl rfl rfl rfl rfl rfl rfl ?_ | refine w_end11 rfl rfl rfl rfl rfl rfl rfl rfl rfl rfl rfl ?_ | refine w_end12 rfl rfl rfl rfl rfl rfl rfl rfl rfl rfl rfl rfl ?_ | refine w_end13 rfl rfl rfl rfl rfl rfl rfl rfl rfl rfl rfl rfl rfl ?_ | refine w_end14 rfl rfl rfl rfl rfl rfl rfl rfl rfl rfl rfl rfl rfl rfl ?_ | refine w_end15 rfl rfl rfl rfl rfl rfl rfl rfl rfl rfl rfl rfl rfl rfl rfl ?_ | refine w_end16 rfl rfl rfl rfl rfl rfl rfl rfl rfl rfl rfl rfl rfl rfl rfl rfl ?_)
            | ((refine i_cons ?_); first
              | refine k_len rfl hla ?_
              | (refine k_app0 g0 (Ab.Own.lit0 _) rfl rfl (IsInts.src (IsSl.ext a10 g0)) (hbe _ (by simp; omega)) ?_; intro s13 h11 v1 v2 v3)
              | refine k_skip rfl ?_
              | refine k_want rfl ?_
              | refine k_mv rfl ?_
              | refine k_pickT rfl rfl ?_
              | refine k_pickF rfl rfl ?_
              | refine k_notT rfl ?_
              | refine k_notF rfl ?_
              | refine k_add rfl rfl (by omega) ?_
              | refine k_sub rfl rfl (by omega) ?_
              | refine k_mul rfl rfl (by omega) ?_
              | refine k_neg rfl (by omega) ?_
              | refine k_quo rfl rfl (by omega) ?_
              | refine k_rem rfl rfl (by omega) ?_
              | refine k_conv rfl (by omega) ?_
              | refine k_max rfl rfl ?_
              | refine k_min rfl rfl ?_
              | refine k_lssT rfl rfl (by omega) ?_
              | refine k_lssF rfl rfl (by omega) ?_
              | refine k_lss rfl rfl (fun hc => ?_) (fun hc => ?_)
              | refine k_leqT rfl rfl (by omega) ?_
              | refine k_leqF rfl rfl (by omega) ?_
              | refine k_leq rfl rfl (fun hc => ?_) (fun hc => ?_)
              | refine k_gtrT rfl rfl (by omega) ?_
              | refine k_gtrF rfl rfl (by omega) ?_
              | refine k_gtr rfl rfl (fun hc => ?_) (fun hc => ?_)
              | refine k_geqT rfl rfl (by omega) ?_
              | refine k_geqF rfl rfl (by omega) ?_
              | refine k_geq rfl rfl (fun hc => ?_) (fun hc => ?_)
              | refine k_eqlT rfl rfl (by omega) ?_
              | refine k_eqlF rfl rfl (by omega) ?_
              | refine k_eql rfl rfl (fun hc => ?_) (fun hc => ?_)
              | refine k_neqT rfl rfl (by omega) ?_
              | refine k_neqF rfl rfl (by omega) ?_
              | refine k_neq rfl rfl (fun hc => ?_) (fun hc => ?_)
              | refine k_len rfl rfl ?_
              | refine k_ok rfl rfl ?_))
          all_goals first
            | (exfalso; omega)
            | skip
          have g1 : Ext h11 (h11 ++ [Blk.cells [SV.int .i64 7] true 1]) := ⟨_, rfl⟩
          have g2 := g0.trans v2
          repeat' (first
            | refine w_seq ?_
            | refine w_seqN ?_
            | refine w_seqX ?_
            | refine w_seqR ?_
            | refine w_blk ?_
            | refine w_blkN ?_
            | refine w_blkX ?_
            | refine w_blkR ?_
            | refine w_skip ?_
            | refine w_ret ?_
            | refine w_exit ?_
            | refine w_ops ?_
            | refine w_opsD ?_
            | refine d_one ?_
            | refine d_nil ?_
            | ((refine i_cond ?_); first | refine w_condT rfl ?_ | refine w_condF rfl ?_)
            | ((refine i_nil ?_); first | refine d_same ?_ | refine d_ord ?_ | refine d_ext ⟨_, rfl⟩ ?_ | refine d_ext (by assumption) ?_ | refine w_end0 ?_ | refine w_end1 rfl ?_ | refine w_end2 rfl rfl ?_ | refine w_end3 rfl rfl rfl ?_ | refine w_end4 rfl rfl rfl rfl ?_ | refine w_end5 rfl rfl rfl rfl rfl ?_ | refine w_end6 rfl rfl rfl rfl rfl rfl ?_ | refine w_end7 rfl rfl rfl rfl rfl rfl rfl ?_ | refine w_end8 rfl rfl rfl rfl rfl rfl rfl rfl ?_ | refine w_end9 rfl rfl rfl rfl rfl rfl rfl rfl rfl ?_ | refine w_end10 rfl rfl rfl rfl rfl rfl rfl rfl rfl rfl ?_ | refine w_end11 rfl rfl rfl rfl rfl rfl rfl rfl rfl rfl rfl ?_ | refine w_end12 rfl rfl rfl rfl rfl rfl rfl rfl rfl rfl rfl rfl ?_ | refine w_end13 rfl rfl rfl rfl rfl rfl rfl rfl rfl rfl rfl rfl rfl ?_ | refine w_end14 rfl rfl rfl rfl rfl rfl rfl rfl rfl rfl rfl rfl rfl rfl ?_ | refine w_end15 rfl rfl rfl rfl rfl rfl rfl rfl rfl rfl rfl rfl rfl rfl rfl ?_ | refine w_end16 rfl rfl rfl rfl rfl rfl rfl rfl rfl rfl rfl rfl rfl rfl rfl rfl ?_)
            | ((refine i_cons ?_); first
              | (refine k_app (ws := [.int .i64 7]) (g2.trans g1) (Ab.Own.ext v1 g1) rfl rfl (src_last rfl) (hbe _ (by simp; omega)) ?_; intro s14 h12 y1 y2 y3 y4)
              | refine k_skip rfl ?_
              | refine k_want rfl ?_
              | refine k_mv rfl ?_
              | refine k_pickT rfl rfl ?_
              | refine k_pickF rfl rfl ?_
              | refine k_notT rfl ?_
              | refine k_notF rfl ?_
              | refine k_add rfl rfl (by omega) ?_
              | refine k_sub rfl rfl (by omega) ?_
              | refine k_mul rfl rfl (by omega) ?_
              | refine k_neg rfl (by omega) ?_
              | refine k_quo rfl rfl (by omega) ?_
              | refine k_rem rfl rfl (by omega) ?_
              | refine k_conv rfl (by omega) ?_
              | refine k_max rfl rfl ?_
              | refine k_min rfl rfl ?_
              | refine k_lssT rfl rfl (by omega) ?_
              | refine k_lssF rfl rfl (by omega) ?_
              | refine k_lss rfl rfl (fun hc => ?_) (fun hc => ?_)
              | refine k_leqT rfl rfl (by omega) ?_
              | refine k_leqF rfl rfl (by omega) ?_
              | refine k_leq rfl rfl (fun hc => ?_) (fun hc => ?_)
              | refine k_gtrT rfl rfl (by omega) ?_
              | refine k_gtrF rfl rfl (by omega) ?_
              | refine k_gtr rfl rfl (fun hc => ?_) (fun hc => ?_)
              | refine k_geqT rfl rfl (by omega) ?_
              | refine k_geqF rfl rfl (by omega) ?_
              | refine k_geq rfl rfl (fun hc => ?_) (fun hc => ?_)
              | refine k_eqlT rfl rfl (by omega) ?_
              | refine k_eqlF rfl rfl (by omega) ?_
              | refine k_eql rfl rfl (fun hc => ?_) (fun hc => ?_)
              | refine k_neqT rfl rfl (by omega) ?_
              | refine k_neqF rfl rfl (by omega) ?_
              | refine k_neq rfl rfl (fun hc => ?_) (fun hc => ?_)
              | refine k_len rfl rfl ?_
              | refine k_ok rfl rfl ?_))
          have hn7 : ints (xs ++ [7]) = List.map (SV.int .i64) xs ++ [SV.int .i64 7] := by simp [ints]
          rw [← hn7] at y1
          have m7 : Mid 61 (xs ++ [7]) := mx.app (show Mid 1 [7] from ⟨Nat.le_refl _, fun x hx => by simp at hx; omega⟩)
          repeat' (first
            | refine w_seq ?_
            | refine w_seqN ?_
            | refine w_seqX ?_
            | refine w_seqR ?_
            | refine w_blk ?_
            | refine w_blkN ?_
            | refine w_blkX ?_
            | refine w_blkR ?_
            | refine w_skip ?_
            | refine w_ret ?_
            | refine w_exit ?_
            | refine w_ops ?_
            | refine w_opsD ?_
            | refine d_one ?_
            | refine d_nil ?_
            | ((refine i_cond ?_); first | refine w_condT rfl ?_ | refine w_condF rfl ?_)
            | ((refine i_nil ?_); first | refine d_same ?_ | refine d_ord ?_ | refine d_ext ⟨_, rfl⟩ ?_ | refine d_ext (by assumption) ?_ | refine w_end0 ?_ | refine w_end1 rfl ?_ | refine w_end2 rfl rfl ?_ | refine w_end3 rfl rfl rfl ?_ | refine w_end4 rfl rfl rfl rfl ?_ | refine w_end5 rfl rfl rfl rfl rfl ?_ | refine w_end6 rfl rfl rfl rfl rfl rfl ?_ | refine w_end7 rfl rfl rfl rfl rfl rfl rfl ?_ | refine w_end8 rfl rfl rfl rfl rfl rfl rfl rfl ?_ | refine w_end9 rfl rfl rfl rfl rfl rfl rfl rfl rfl ?_ | refine w_end10 rfl rfl rfl rfl rfl rfl rfl rfl rfl rfl ?_ | refine w_end11 rfl rfl rfl rfl rfl rfl rfl rfl rfl rfl rfl ?_ | refine w_end12 rfl rfl rfl rfl rfl rfl rfl rfl rfl rfl rfl rfl ?_ | refine w_end13 rfl rfl rfl rfl rfl rfl rfl rfl rfl rfl rfl rfl rfl ?_ | refine w_end14 rfl rfl rfl rfl rfl rfl rfl rfl rfl rfl rfl rfl rfl rfl ?_ | refine w_end15 rfl rfl rfl rfl rfl rfl rfl rfl rfl rfl rfl rfl rfl rfl rfl ?_ | refine w_end16 rfl rfl rfl rfl rfl rfl rfl rfl rfl rfl rfl rfl rfl rfl rfl rfl ?_)
            | ((refine i_cons ?_); first
              | (refine k_call rfl (call24F (IsSl.ext a10 y2) (Ab.Own.ids y1) (mx.mono (by omega)) (m7.mono (by omega)) conj_seven) ?_; rintro v h13 ⟨rfl, e13⟩)
              | (refine k_call rfl (call24 _ _ _ xs ys (IsSl.ext (IsSl.ext a10 y2) e13) (IsSl.ext (IsSl.ext b10 y2) e13) (mx.mono (by omega)) (my.mono (by omega))) ?_; rintro v h14 ⟨c1, rfl, d1, e14⟩)
              | refine k_skip rfl ?_
              | refine k_want rfl ?_
              | refine k_mv rfl ?_
              | refine k_pickT rfl rfl ?_
              | refine k_pickF rfl rfl ?_
              | refine k_notT rfl ?_
              | refine k_notF rfl ?_
              | refine k_add rfl rfl (by omega) ?_
              | refine k_sub rfl rfl (by omega) ?_
              | refine k_mul rfl rfl (by omega) ?_
              | refine k_neg rfl (by omega) ?_
              | refine k_quo rfl rfl (by omega) ?_
              | refine k_rem rfl rfl (by omega) ?_
              | refine k_conv rfl (by omega) ?_
              | refine k_max rfl rfl ?_
              | refine k_min rfl rfl ?_
              | refine k_lssT rfl rfl (by omega) ?_
              | refine k_lssF rfl rfl (by omega) ?_
              | refine k_lss rfl rfl (fun hc => ?_) (fun hc => ?_)
              | refine k_leqT rfl rfl (by omega) ?_
              | refine k_leqF rfl rfl (by omega) ?_
              | refine k_leq rfl rfl (fun hc => ?_) (fun hc => ?_)
              | refine k_gtrT rfl rfl (by omega) ?_
              | refine k_gtrF rfl rfl (by omega) ?_
              | refine k_gtr rfl rfl (fun hc => ?_) (fun hc => ?_)
              | refine k_geqT rfl rfl (by omega) ?_
              | refine k_geqF rfl rfl (by omega) ?_
              | refine k_geq rfl rfl (fun hc => ?_) (fun hc => ?_)
              | refine k_eqlT rfl rfl (by omega) ?_
              | refine k_eqlF rfl rfl (by omega) ?_
              | refine k_eql rfl rfl (fun hc => ?_) (fun hc => ?_)
              | refine k_neqT rfl rfl (by omega) ?_
              | refine k_neqF rfl rfl (by omega) ?_
              | refine k_neq rfl rfl (fun hc => ?_) (fun hc => ?_)
              | refine k_len rfl rfl ?_
              | refine k_ok rfl rfl ?_))
          repeat' (first
            | refine w_seq ?_
            | refine w_seqN ?_
            | refine w_seqX ?_
            | refine w_seqR ?_
            | refine w_blk ?_
            | refine w_blkN ?_
            | refine w_blkX ?_
            | refine w_blkR ?_
            | refine w_skip ?_
            | refine w_ret ?_
            | refine w_exit ?_
            | refine w_ops ?_
            | refine w_opsD ?_
            | refine d_one ?_
            | refine d_nil ?_
            | ((refine i_cond ?_); first | refine w_condT rfl ?_ | refine w_condF rfl ?_)
            | ((refine i_nil ?_); first | refine d_same ?_ | refine d_ord ?_ | refine d_ext ⟨_, rfl⟩ ?_ | refine d_ext (by assumption) ?_ | refine w_end0 ?_ | refine w_end1 rfl ?_ | refine w_end2 rfl rfl ?_ | refine w_end3 rfl rfl rfl ?_ | refine w_end4 rfl rfl rfl rfl ?_ | refine w_end5 rfl rfl rfl rfl rfl ?_ | refine w_end6 rfl rfl rfl rfl rfl rfl ?_ | refine w_end7 rfl rfl rfl rfl rfl rfl rfl ?_ | refine w_end8 rfl rfl rfl rfl rfl rfl rfl rfl ?_ | refine w_end9 rfl rfl rfl rfl rfl rfl rfl rfl rfl ?_ | refine w_end10 rfl rfl rfl rfl rfl rfl rfl rfl rfl rfl ?_ | refine w_end11 rfl rfl rfl rfl rfl rfl rfl rfl rfl rfl rfl ?_ | refine w_end12 rfl rfl rfl rfl rfl rfl rfl rfl rfl rfl rfl rfl ?_ | refine w_end13 rfl rfl rfl rfl rfl rfl rfl rfl rfl rfl rfl rfl rfl ?_ | refine w_end14 rfl rfl rfl rfl rfl rfl rfl rfl rfl rfl rfl rfl rfl rfl ?_ | refine w_end15 rfl rfl rfl rfl rfl rfl rfl rfl rfl rfl rfl rfl rfl rfl rfl ?_ | refine w_end16 rfl rfl rfl rfl rfl rfl rfl rfl rfl rfl rfl rfl rfl rfl rfl rfl ?_)
            | ((refine i_cons ?_); first
              | (refine k_call rfl (call24 _ _ _ ys xs (IsSl.ext (IsSl.ext (IsSl.ext b10 y2) e13) e14) (IsSl.ext (IsSl.ext (IsSl.ext a10 y2) e13) e14) (my.mono (by omega)) (mx.mono (by omega))) ?_; rintro v h15 ⟨c2, rfl, d2, e15⟩)
              | refine k_skip rfl ?_
              | refine k_want rfl ?_
              | refine k_mv rfl ?_
              | refine k_pickT rfl rfl ?_
              | refine k_pickF rfl rfl ?_
              | refine k_notT rfl ?_
              | refine k_notF rfl ?_
              | refine k_add rfl rfl (by omega) ?_
              | refine k_sub rfl rfl (by omega) ?_
              | refine k_mul rfl rfl (by omega) ?_
              | refine k_neg rfl (by omega) ?_
              | refine k_quo rfl rfl (by omega) ?_
              | refine k_rem rfl rfl (by omega) ?_
              | refine k_conv rfl (by omega) ?_
              | refine k_max rfl rfl ?_
              | refine k_min rfl rfl ?_
              | refine k_lssT rfl rfl (by omega) ?_
              | refine k_lssF rfl rfl (by omega) ?_
              | refine k_lss rfl rfl (fun hc => ?_) (fun hc => ?_)
              | refine k_leqT rfl rfl (by omega) ?_
              | refine k_leqF rfl rfl (by omega) ?_
              | refine k_leq rfl rfl (fun hc => ?_) (fun hc => ?_)
              | refine k_gtrT rfl rfl (by omega) ?_
              | refine k_gtrF rfl rfl (by omega) ?_
              | refine k_gtr rfl rfl (fun hc => ?_) (fun hc => ?_)
              | refine k_geqT rfl rfl (by omega) ?_
              | refine k_geqF rfl rfl (by omega) ?_
              | refine k_geq rfl rfl (fun hc => ?_) (fun hc => ?_)
              | refine k_eqlT rfl rfl (by omega) ?_
              | refine k_eqlF rfl rfl (by omega) ?_
              | refine k_eql rfl rfl (fun hc => ?_) (fun hc => ?_)
              | refine k_neqT rfl rfl (by omega) ?_
              | refine k_neqF rfl rfl (by omega) ?_
              | refine k_neq rfl rfl (fun hc => ?_) (fun hc => ?_)
              | refine k_len rfl rfl ?_
              | refine k_ok rfl rfl ?_))
          obtain rfl : c2 = c1 := Bool.eq_iff_iff.2 (d2.trans (Iff.trans ⟨Conj.symm, Conj.symm⟩ d1.symm))
          cases c2
          · repeat' (first
   | refine w_seq ?_
   | refine w_seqN ?_
   | refine w_seqX ?_
   | refine w_seqR ?_
   | refine w_blk ?_
   | refine w_blkN ?_
   | refine w_blkX ?_
   | refine w_blkR ?_
   | refine w_skip ?_
   | refine w_ret ?_
   | refine w_exit ?_
   | refine w_ops ?_
   | refine w_opsD ?_
   | refine d_one ?_
   | refine d_nil ?_
   | ((refine i_cond ?_); first | refine w_condT rfl ?_ | refine w_condF rfl ?_)
   | ((refine i_nil ?_); first | refine d_same ?_ | refine d_ord ?_ | refine d_ext ⟨_, rfl⟩ ?_ | refine d_ext (by assumption) ?_ | refine w_end0 ?_ | refine w_end1 rfl ?_ | refine w_end2 rfl rfl ?_ | refine w_end3 rfl rfl rfl ?_ | refine w_end4 rfl rfl rfl rfl ?_ | refine w_end5 rfl rfl rfl rfl rfl ?_ | refine w_end6 rfl rfl rfl rfl rfl rfl ?_ | refine w_end7 rfl rfl rfl rfl rfl rfl rfl ?_ | refine w_end8 rfl rfl rfl rfl rfl rfl rfl rfl ?_ | refine w_end9 rfl rfl rfl rfl rfl rfl rfl rfl rfl ?_ | refine w_end10 rfl rfl rfl rfl rfl rfl rfl rfl rfl rfl ?_ | refine w_end11 rfl rfl rfl rfl rfl rfl rfl rfl rfl rfl rfl ?_ | refine w_end12 rfl rfl rfl rfl rfl rfl rfl rfl rfl rfl rfl rfl ?_ | refine w_end13 rfl rfl rfl rfl rfl rfl rfl rfl rfl rfl rfl rfl rfl ?_ | refine w_end14 rfl rfl rfl rfl rfl rfl rfl rfl rfl rfl rfl rfl rfl rfl ?_ | refine w_end15 rfl rfl rfl rfl rfl rfl rfl rfl rfl rfl rfl rfl rfl rfl rfl ?_ | refine w_end16 rfl rfl rfl rfl rfl rfl rfl rfl rfl rfl rfl rfl rfl rfl rfl rfl ?_)
   | ((refine i_cons ?_); first
     | refine k_skip rfl ?_
     | refine k_want rfl ?_
     | refine k_mv rfl ?_
     | refine k_pickT rfl rfl ?_
     | refine k_pickF rfl rfl ?_
     | refine k_notT rfl ?_
     | refine k_notF rfl ?_
     | refine k_add rfl rfl (by omega) ?_
     | refine k_sub rfl rfl (by omega) ?_
     | refine k_mul rfl rfl (by omega) ?_
     | refine k_neg rfl (by omega) ?_
     | refine k_quo rfl rfl (by omega) ?_
     | refine k_rem rfl rfl (by omega) ?_
     | refine k_conv rfl (by omega) ?_
     | refine k_max rfl rfl ?_
     | refine k_min rfl rfl ?_
     | refine k_lssT rfl rfl (by omega) ?_
     | refine k_lssF rfl rfl (by omega) ?_
     | refine k_lss rfl rfl (fun hc => ?_) (fun hc => ?_)
     | refine k_leqT rfl rfl (by omega) ?_
     | refine k_leqF rfl rfl (by omega) ?_
     | refine k_leq rfl rfl (fun hc => ?_) (fun hc => ?_)
     | refine k_gtrT rfl rfl (by omega) ?_
     | refine k_gtrF rfl rfl (by omega) ?_
     | refine k_gtr rfl rfl (fun hc => ?_) (fun hc => ?_)
     | refine k_geqT rfl rfl (by omega) ?_
     | refine k_geqF rfl rfl (by omega) ?_
     | refine k_geq rfl rfl (fun hc => ?_) (fun hc => ?_)
     | refine k_eqlT rfl rfl (by omega) ?_
     | refine k_eqlF rfl rfl (by omega) ?_
     | refine k_eql rfl rfl (fun hc => ?_) (fun hc => ?_)
     | refine k_neqT rfl rfl (by omega) ?_
     | refine k_neqF rfl rfl (by omega) ?_
     | refine k_neq rfl rfl (fun hc => ?_) (fun hc => ?_)
     | refine k_len rfl rfl ?_
     | refine k_ok rfl rfl ?_))
            exact ⟨.inr rfl, rfl⟩
          · repeat' (first
   | refine w_seq ?_
   | refine w_seqN ?_
   | refine w_seqX ?_
   | refine w_seqR ?_
   | refine w_blk ?_
   | refine w_blkN ?_
   | refine w_blkX ?_
   | refine w_blkR ?_
   | refine w_skip ?_
   | refine w_ret ?_
   | refine w_exit ?_
   | refine w_ops ?_
   | refine w_opsD ?_
   | refine d_one ?_
   | refine d_nil ?_
   | ((refine i_cond ?_); first | refine w_condT rfl ?_ | refine w_condF rfl ?_)
   | ((refine i_nil ?_); first | refine d_same ?_ | refine d_ord ?_ | refine d_ext ⟨_, rfl⟩ ?_ | refine d_ext (by assumption) ?_ | refine w_end0 ?_ | refine w_end1 rfl ?_ | refine w_end2 rfl rfl ?_ | refine w_end3 rfl rfl rfl ?_ | refine w_end4 rfl rfl rfl rfl ?_ | refine w_end5 rfl rfl rfl rfl rfl ?_ | refine w_end6 rfl rfl rfl rfl rfl rfl ?_ | refine w_end7 rfl rfl rfl rfl rfl rfl rfl ?_ | refine w_end8 rfl rfl rfl rfl rfl rfl rfl rfl ?_ | refine w_end9 rfl rfl rfl rfl rfl rfl rfl rfl rfl ?_ | refine w_end10 rfl rfl rfl rfl rfl rfl rfl rfl rfl rfl ?_ | refine w_end11 rfl rfl rfl rfl rfl rfl rfl rfl rfl rfl rfl ?_ | refine w_end12 rfl rfl rfl rfl rfl rfl rfl rfl rfl rfl rfl rfl ?_ | refine w_end13 rfl rfl rfl rfl rfl rfl rfl rfl rfl rfl rfl rfl rfl ?_ | refine w_end14 rfl rfl rfl rfl rfl rfl rfl rfl rfl rfl rfl rfl rfl rfl ?_ | refine w_end15 rfl rfl rfl rfl rfl rfl rfl rfl rfl rfl rfl rfl rfl rfl rfl ?_ | refine w_end16 rfl rfl rfl rfl rfl rfl rfl rfl rfl rfl rfl rfl rfl rfl rfl rfl ?_)
   | ((refine i_cons ?_); first
     | refine k_skip rfl ?_
     | refine k_want rfl ?_
     | refine k_mv rfl ?_
     | refine k_pickT rfl rfl ?_
     | refine k_pickF rfl rfl ?_
     | refine k_notT rfl ?_
     | refine k_notF rfl ?_
     | refine k_add rfl rfl (by omega) ?_
     | refine k_sub rfl rfl (by omega) ?_
     | refine k_mul rfl rfl (by omega) ?_
     | refine k_neg rfl (by omega) ?_
     | refine k_quo rfl rfl (by omega) ?_
     | refine k_rem rfl rfl (by omega) ?_
     | refine k_conv rfl (by omega) ?_
     | refine k_max rfl rfl ?_
     | refine k_min rfl rfl ?_
     | refine k_lssT rfl rfl (by omega) ?_
     | refine k_lssF rfl rfl (by omega) ?_
     | refine k_lss rfl rfl (fun hc => ?_) (fun hc => ?_)
     | refine k_leqT rfl rfl (by omega) ?_
     | refine k_leqF rfl rfl (by omega) ?_
     | refine k_leq rfl rfl (fun hc => ?_) (fun hc => ?_)
     | refine k_gtrT rfl rfl (by omega) ?_
     | refine k_gtrF rfl rfl (by omega) ?_
     | refine k_gtr rfl rfl (fun hc => ?_) (fun hc => ?_)
     | refine k_geqT rfl rfl (by omega) ?_
     | refine k_geqF rfl rfl (by omega) ?_
     | refine k_geq rfl rfl (fun hc => ?_) (fun hc => ?_)
     | refine k_eqlT rfl rfl (by omega) ?_
     | refine k_eqlF rfl rfl (by omega) ?_
     | refine k_eql rfl rfl (fun hc => ?_) (fun hc => ?_)
     | refine k_neqT rfl rfl (by omega) ?_
     | refine k_neqF rfl rfl (by omega) ?_
     | refine k_neq rfl rfl (fun hc => ?_) (fun hc => ?_)
     | refine k_len rfl rfl ?_
     | refine k_ok rfl rfl ?_))
            exact ⟨.inr rfl, rfl⟩
        · skip
          have g0 : Ext h7 (h7 ++ [Blk.cells (rep [SV.int .i64 0] 0) true 1]) := ⟨_, rfl⟩
          have hbe : ∀ n : Nat, n ≤ 1000 → n * (8 + 1) ≤ bigN := fun n hn => by simp [bigN]; omega
          repeat' (first
            | refine w_seq ?_
            | refine w_seqN ?_
            | refine w_seqX ?_
            | refine w_seqR ?_
            | refine w_blk ?_
            | refine w_blkN ?_
            | refine w_blkX ?_
            | refine w_blkR ?_
            | refine w_skip ?_
            | refine w_ret ?_
            | refine w_exit ?_
            | refine w_ops ?_
            | refine w_opsD ?_
            | refine d_one ?_
            | refine d_nil ?_
            | ((refine i_cond ?_); first | refine w_condT rfl ?_ | refine w_condF rfl ?_)
            | ((refine i_nil ?_); first | refine d_same ?_ | refine d_ord ?_ | refine d_ext ⟨_, rfl⟩ ?_ | refine d_ext (by assumption) ?_ | refine w_end0 ?_ | refine w_end1 rfl ?_ | refine w_end2 rfl rfl ?_ | refine w_end3 rfl rfl rfl ?_ | refine w_end4 rfl rfl rfl rfl ?_ | refine w_end5 rfl rfl rfl rfl rfl ?_ | refine w_end6 rfl rfl rfl rfl rfl rfl ?_ | refine w_end7 rfl rfl rfl rfl rfl rfl rfl ?_ | refine w_end8 rfl rfl rfl rfl rfl rfl rfl rfl ?_ | refine w_end9 rfl rfl rfl rfl rfl rfl rfl rfl rfl ?_ | refine w_end10 rfl rfl rfl rfl rfl rfl rfl rfl rfl rfl ?_ | refine w_end11 rfl rfl rfl rfl rfl rfl rfl rfl rfl rfl rfl ?_ | refine w_end12 rfl rfl rfl rfl rfl rfl rfl rfl rfl rfl rfl rfl ?_ | refine w_end13 rfl rfl rfl rfl rfl rfl rfl rfl rfl rfl rfl rfl rfl ?_ | refine w_end14 rfl rfl rfl rfl rfl rfl rfl rfl rfl rfl rfl rfl rfl rfl ?_ | refine w_end15 rfl rfl rfl rfl rfl rfl rfl rfl rfl rfl rfl rfl rfl rfl rfl ?_ | refine w_end16 rfl rfl rfl rfl rfl rfl rfl rfl rfl rfl rfl rfl rfl rfl rfl rfl ?_)
            | ((refine i_cons ?_); first
              | refine k_len rfl hla ?_
              | (refine k_app0 g0 (Ab.Own.lit0 _) rfl rfl (IsInts.src (IsSl.ext a7 g0)) (hbe _ (by simp; omega)) ?_; intro s13 h11 v1 v2 v3)
              | refine k_skip rfl ?_
              | refine k_want rfl ?_
              | refine k_mv rfl ?_
              | refine k_pickT rfl rfl ?_
              | refine k_pickF rfl rfl ?_
              | refine k_notT rfl ?_
              | refine k_notF rfl ?_
              | refine k_add rfl rfl (by omega) ?_
              | refine k_sub rfl rfl (by omega) ?_
              | refine k_mul rfl rfl (by omega) ?_
              | refine k_neg rfl (by omega) ?_
              | refine k_quo rfl rfl (by omega) ?_
              | refine k_rem rfl rfl (by omega) ?_
              | refine k_conv rfl (by omega) ?_
              | refine k_max rfl rfl ?_
              | refine k_min rfl rfl ?_
              | refine k_lssT rfl rfl (by omega) ?_
              | refine k_lssF rfl rfl (by omega) ?_
              | refine k_lss rfl rfl (fun hc => ?_) (fun hc => ?_)
              | refine k_leqT rfl rfl (by omega) ?_
              | refine k_leqF rfl rfl (by omega) ?_
              | refine k_leq rfl rfl (fun hc => ?_) (fun hc => ?_)
              | refine k_gtrT rfl rfl (by omega) ?_
              | refine k_gtrF rfl rfl (by omega) ?_
              | refine k_gtr rfl rfl (fun hc => ?_) (fun hc => ?_)
              | refine k_geqT rfl rfl (by omega) ?_
              | refine k_geqF rfl rfl (by omega) ?_
              | refine k_geq rfl rfl (fun hc => ?_) (fun hc => ?_)
              | refine k_eqlT rfl rfl (by omega) ?_
              | refine k_eqlF rfl rfl (by omega) ?_
              | refine k_eql rfl rfl (fun hc => ?_) (fun hc => ?_)
              | refine k_neqT rfl rfl (by omega) ?_
              | refine k_neqF rfl rfl (by omega) ?_
              | refine k_neq rfl rfl (fun hc => ?_) (fun hc => ?_)
              | refine k_len rfl rfl ?_
              | refine k_ok rfl rfl ?_))
          all_goals first
            | (exfalso; omega)
            | skip
          have g1 : Ext h11 (h11 ++ [Blk.cells [SV.int .i64 7] true 1]) := ⟨_, rfl⟩
          have g2 := g0.trans v2
          repeat' (first
            | refine w_seq ?_
            | refine w_seqN ?_
            | refine w_seqX ?_
            | refine w_seqR ?_
            | refine w_blk ?_
            | refine w_blkN ?_
            | refine w_blkX ?_
            | refine w_blkR ?_
            | refine w_skip ?_
            | refine w_ret ?_
            | refine w_exit ?_
            | refine w_ops ?_
            | refine w_opsD ?_
            | refine d_one ?_
            | refine d_nil ?_
            | ((refine i_cond ?_); first | refine w_condT rfl ?_ | refine w_condF rfl ?_)
            | ((refine i_nil ?_); first | refine d_same ?_ | refine d_ord ?_ | refine d_ext ⟨_, rfl⟩ ?_ | refine d_ext (by assumption) ?_ | refine w_end0 ?_ | refine w_end1 rfl ?_ | refine w_end2 rfl rfl ?_ | refine w_end3 rfl rfl rfl ?_ | refine w_end4 rfl rfl rfl rfl ?_ | refine w_end5 rfl rfl rfl rfl rfl ?_ | refine w_end6 rfl rfl rfl rfl rfl rfl ?_ | refine w_end7 rfl rfl rfl rfl rfl rfl rfl ?_ | refine w_end8 rfl rfl rfl rfl rfl rfl rfl rfl ?_ | refine w_end9 rfl rfl rfl rfl rfl rfl rfl rfl rfl ?_ | refine w_end10 rfl rfl rfl rfl rfl rfl rfl rfl rfl rfl ?_ | refine w_end11 rfl rfl rfl rfl rfl rfl rfl rfl rfl rfl rfl ?_ | refine w_end12 rfl rfl rfl rfl rfl rfl rfl rfl rfl rfl rfl rfl ?_ | refine w_end13 rfl rfl rfl rfl rfl rfl rfl rfl rfl rfl rfl rfl rfl ?_ | refine w_end14 rfl rfl rfl rfl rfl rfl rfl rfl rfl rfl rfl rfl rfl rfl ?_ | refine w_end15 rfl rfl rfl rfl rfl rfl rfl rfl rfl rfl rfl rfl rfl rfl rfl ?_ | refine w_end16 rfl rfl rfl rfl rfl rfl rfl rfl rfl rfl rfl rfl rfl rfl rfl rfl ?_)
            | ((refine i_cons ?_); first
              | (refine k_app (ws := [.int .i64 7]) (g2.trans g1) (Ab.Own.ext v1 g1) rfl rfl (src_last rfl) (hbe _ (by simp; omega)) ?_; intro s14 h12 y1 y2 y3 y4)
              | refine k_skip rfl ?_
              | refine k_want rfl ?_
              | refine k_mv rfl ?_
              | refine k_pickT rfl rfl ?_
              | refine k_pickF rfl rfl ?_
              | refine k_notT rfl ?_
              | refine k_notF rfl ?_
              | refine k_add rfl rfl (by omega) ?_
              | refine k_sub rfl rfl (by omega) ?_
              | refine k_mul rfl rfl (by omega) ?_
              | refine k_neg rfl (by omega) ?_
              | refine k_quo rfl rfl (by omega) ?_
              | refine k_rem rfl rfl (by omega) ?_
              | refine k_conv rfl (by omega) ?_
              | refine k_max rfl rfl ?_
              | refine k_min rfl rfl ?_
              | refine k_lssT rfl rfl (by omega) ?_
              | refine k_lssF rfl rfl (by omega) ?_
              | refine k_lss rfl rfl (fun hc => ?_) (fun hc => ?_)
              | refine k_leqT rfl rfl (by omega) ?_
              | refine k_leqF rfl rfl (by omega) ?_
              | refine k_leq rfl rfl (fun hc => ?_) (fun hc => ?_)
              | refine k_gtrT rfl rfl (by omega) ?_
              | refine k_gtrF rfl rfl (by omega) ?_
              | refine k_gtr rfl rfl (fun hc => ?_) (fun hc => ?_)
              | refine k_geqT rfl rfl (by omega) ?_
              | refine k_geqF rfl rfl (by omega) ?_
              | refine k_geq rfl rfl (fun hc => ?_) (fun hc => ?_)
              | refine k_eqlT rfl rfl (by omega) ?_
              | refine k_eqlF rfl rfl (by omega) ?_
              | refine k_eql rfl rfl (fun hc => ?_) (fun hc => ?_)
              | refine k_neqT rfl rfl (by omega) ?_
              | refine k_neqF rfl rfl (by omega) ?_
              | refine k_neq rfl rfl (fun hc => ?_) (fun hc => ?_)
              | refine k_len rfl rfl ?_
              | refine k_ok rfl rfl ?_))
          have hn7 : ints (xs ++ [7]) = List.map (SV.int .i64) xs ++ [SV.int .i64 7] := by simp [ints]
          rw [← hn7] at y1
          have m7 : Mid 61 (xs ++ [7]) := mx.app (show Mid 1 [7] from ⟨Nat.le_refl _, fun x hx => by simp at hx; omega⟩)
          repeat' (first
            | refine w_seq ?_
            | refine w_seqN ?_
            | refine w_seqX ?_
            | refine w_seqR ?_
            | refine w_blk ?_
            | refine w_blkN ?_
            | refine w_blkX ?_
            | refine w_blkR ?_
            | refine w_skip ?_
            | refine w_ret ?_
            | refine w_exit ?_
            | refine w_ops ?_
            | refine w_opsD ?_
            | refine d_one ?_
            | refine d_nil ?_
            | ((refine i_cond ?_); first | refine w_condT rfl ?_ | refine w_condF rfl ?_)
            | ((refine i_nil ?_); first | refine d_same ?_ | refine d_ord ?_ | refine d_ext ⟨_, rfl⟩ ?_ | refine d_ext (by assumption) ?_ | refine w_end0 ?_ | refine w_end1 rfl ?_ | refine w_end2 rfl rfl ?_ | refine w_end3 rfl rfl rfl ?_ | refine w_end4 rfl rfl rfl rfl ?_ | refine w_end5 rfl rfl rfl rfl rfl ?_ | refine w_end6 rfl rfl rfl rfl rfl rfl ?_ | refine w_end7 rfl rfl rfl rfl rfl rfl rfl ?_ | refine w_end8 rfl rfl rfl rfl rfl rfl rfl rfl ?_ | refine w_end9 rfl rfl rfl rfl rfl rfl rfl rfl rfl ?_ | refine w_end10 rfl rfl rfl rfl rfl rfl rfl rfl rfl rfl ?_ | refine w_end11 rfl rfl rfl rfl rfl rfl rfl rfl rfl rfl rfl ?_ | refine w_end12 rfl rfl rfl rfl rfl rfl rfl rfl rfl rfl rfl rfl ?_ | refine w_end13 rfl rfl rfl rfl rfl rfl rfl rfl rfl rfl rfl rfl rfl ?_ | refine w_end14 rfl rfl rfl rfl rfl rfl rfl rfl rfl rfl rfl rfl rfl rfl ?_ | refine w_end15 rfl rfl rfl rfl rfl rfl rfl rfl rfl rfl rfl rfl rfl rfl rfl ?_ | refine w_end16 rfl rfl rfl rfl rfl rfl rfl rfl rfl rfl rfl rfl rfl rfl rfl rfl ?_)
            | ((refine i_cons ?_); first
              | (refine k_call rfl (call24F (IsSl.ext a7 y2) (Ab.Own.ids y1) (mx.mono (by omega)) (m7.mono (by omega)) conj_seven) ?_; rintro v h13 ⟨rfl, e13⟩)
              | (refine k_call rfl (call24 _ _ _ xs ys (IsSl.ext (IsSl.ext a7 y2) e13) (IsSl.ext (IsSl.ext b7 y2) e13) (mx.mono (by omega)) (my.mono (by omega))) ?_; rintro v h14 ⟨c1, rfl, d1, e14⟩)
              | refine k_skip rfl ?_
              | refine k_want rfl ?_
              | refine k_mv rfl ?_
              | refine k_pickT rfl rfl ?_
              | refine k_pickF rfl rfl ?_
              | refine k_notT rfl ?_
              | refine k_notF rfl ?_
              | refine k_add rfl rfl (by omega) ?_
              | refine k_sub rfl rfl (by omega) ?_
              | refine k_mul rfl rfl (by omega) ?_
              | refine k_neg rfl (by omega) ?_
              | refine k_quo rfl rfl (by omega) ?_
              | refine k_rem rfl rfl (by omega) ?_
              | refine k_conv rfl (by omega) ?_
              | refine k_max rfl rfl ?_
              | refine k_min rfl rfl ?_
              | refine k_lssT rfl rfl (by omega) ?_
              | refine k_lssF rfl rfl (by omega) ?_
              | refine k_lss rfl rfl (fun hc => ?_) (fun hc => ?_)
              | refine k_leqT rfl rfl (by omega) ?_
              | refine k_leqF rfl rfl (by omega) ?_
              | refine k_leq rfl rfl (fun hc => ?_) (fun hc => ?_)
              | refine k_gtrT rfl rfl (by omega) ?_
              | refine k_gtrF rfl rfl (by omega) ?_
              | refine k_gtr rfl rfl (fun hc => ?_) (fun hc => ?_)
              | refine k_geqT rfl rfl (by omega) ?_
              | refine k_geqF rfl rfl (by omega) ?_
              | refine k_geq rfl rfl (fun hc => ?_) (fun hc => ?_)
              | refine k_eqlT rfl rfl (by omega) ?_
              | refine k_eqlF rfl rfl (by omega) ?_
              | refine k_eql rfl rfl (fun hc => ?_) (fun hc => ?_)
              | refine k_neqT rfl rfl (by omega) ?_
              | refine k_neqF rfl rfl (by omega) ?_
              | refine k_neq rfl rfl (fun hc => ?_) (fun hc => ?_)
              | refine k_len rfl rfl ?_
              | refine k_ok rfl rfl ?_))
          repeat' (first
            | refine w_seq ?_
            | refine w_seqN ?_
            | refine w_seqX ?_
            | refine w_seqR ?_
            | refine w_blk ?_
            | refine w_blkN ?_
            | refine w_blkX ?_
            | refine w_blkR ?_
            | refine w_skip ?_
            | refine w_ret ?_
            | refine w_exit ?_
            | refine w_ops ?_
            | refine w_opsD ?_
            | refine d_one ?_
            | refine d_nil ?_
            | ((refine i_cond ?_); first | refine w_condT rfl ?_ | refine w_condF rfl ?_)
            | ((refine i_nil ?_); first | refine d_same ?_ | refine d_ord ?_ | refine d_ext ⟨_, rfl⟩ ?_ | refine d_ext (by assumption) ?_ | refine w_end0 ?_ | refine w_end1 rfl ?_ | refine w_end2 rfl rfl ?_ | refine w_end3 rfl rfl rfl ?_ | refine w_end4 rfl rfl rfl rfl ?_ | refine w_end5 rfl rfl rfl rfl rfl ?_ | refine w_end6 rfl rfl rfl rfl rfl rfl ?_ | refine w_end7 rfl rfl rfl rfl rfl rfl rfl ?_ | refine w_end8 rfl rfl rfl rfl rfl rfl rfl rfl ?_ | refine w_end9 rfl rfl rfl rfl rfl rfl rfl rfl rfl ?_ | refine w_end10 rfl rfl rfl rfl rfl rfl rfl rfl rfl rfl ?_ | refine w_end11 rfl rfl rfl rfl rfl rfl rfl rfl rfl rfl rfl ?_ | refine w_end12 rfl rfl rfl rfl rfl rfl rfl rfl rfl rfl rfl rfl ?_ | refine w_end13 rfl rfl rfl rfl rfl rfl rfl rfl rfl rfl rfl rfl rfl ?_ | refine w_end14 rfl rfl rfl rfl rfl rfl rfl rfl rfl rfl rfl rfl rfl rfl ?_ | refine w_end15 rfl rfl rfl rfl rfl rfl rfl rfl rfl rfl rfl rfl rfl rfl rfl ?_ | refine w_end16 rfl rfl rfl rfl rfl rfl rfl rfl rfl rfl rfl rfl rfl rfl rfl rfl ?_)
            | ((refine i_cons ?_); first
              | (refine k_call rfl (call24 _ _ _ ys xs (IsSl.ext (IsSl.ext (IsSl.ext b7 y2) e13) e14) (IsSl.ext (IsSl.ext (IsSl.ext a7 y2) e13) e14) (my.mono (by omega)) (mx.mono (by omega))) ?_; rintro v h15 ⟨c2, rfl, d2, e15⟩)
              | refine k_skip rfl ?_
              | refine k_want rfl ?_
              | refine k_mv rfl ?_
              | refine k_pickT rfl rfl ?_
              | refine k_pickF rfl rfl ?_
              | refine k_notT rfl ?_
              | refine k_notF rfl ?_
              | refine k_add rfl rfl (by omega) ?_
              | refine k_sub rfl rfl (by omega) ?_
              | refine k_mul rfl rfl (by omega) ?_
              | refine k_neg rfl (by omega) ?_
              | refine k_quo rfl rfl (by omega) ?_
              | refine k_rem rfl rfl (by omega) ?_
              | refine k_conv rfl (by omega) ?_
              | refine k_max rfl rfl ?_
              | refine k_min rfl rfl ?_
              | refine k_lssT rfl rfl (by omega) ?_
              | refine k_lssF rfl rfl (by omega) ?_
              | refine k_lss rfl rfl (fun hc => ?_) (fun hc => ?_)
              | refine k_leqT rfl rfl (by omega) ?_
              | refine k_leqF rfl rfl (by omega) ?_
              | refine k_leq rfl rfl (fun hc => ?_) (fun hc => ?_)
              | refine k_gtrT rfl rfl (by omega) ?_
              | refine k_gtrF rfl rfl (by omega) ?_
              | refine k_gtr rfl rfl (fun hc => ?_) (fun hc => ?_)
              | refine k_geqT rfl rfl (by omega) ?_
              | refine k_geqF rfl rfl (by omega) ?_
              | refine k_geq rfl rfl (fun hc => ?_) (fun hc => ?_)
              | refine k_eqlT rfl rfl (by omega) ?_
              | refine k_eqlF rfl rfl (by omega) ?_
              | refine k_eql rfl rfl (fun hc => ?_) (fun hc => ?_)
              | refine k_neqT rfl rfl (by omega) ?_
              | refine k_neqF rfl rfl (by omega) ?_
              | refine k_neq rfl rfl (fun hc => ?_) (fun hc => ?_)
              | refine k_len rfl rfl ?_
              | refine k_ok rfl rfl ?_))
          obtain rfl : c2 = c1 := Bool.eq_iff_iff.2 (d2.trans (Iff.trans ⟨Conj.symm, Conj.symm⟩ d1.symm))
          cases c2
          · repeat' (first
   | refine w_seq ?_
   | refine w_seqN ?_
   | refine w_seqX ?_
   | refine w_seqR ?_
   | refine w_blk ?_
   | refine w_blkN ?_
   | refine w_blkX ?_
   | refine w_blkR ?_
   | refine w_skip ?_
   | refine w_ret ?_
   | refine w_exit ?_
   | refine w_ops ?_
   | refine w_opsD ?_
   | refine d_one ?_
   | refine d_nil ?_
   | ((refine i_cond ?_); first | refine w_condT rfl ?_ | refine w_condF rfl ?_)
   | ((refine i_nil ?_); first | refine d_same ?_ | refine d_ord ?_ | refine d_ext ⟨_, rfl⟩ ?_ | refine d_ext (by assumption) ?_ | refine w_end0 ?_ | refine w_end1 rfl ?_ | refine w_end2 rfl rfl ?_ | refine w_end3 rfl rfl rfl ?_ | refine w_end4 rfl rfl rfl rfl ?_ | refine w_end5 rfl rfl rfl rfl rfl ?_ | refine w_end6 rfl rfl rfl rfl rfl rfl ?_ | refine w_end7 rfl rfl rfl rfl rfl rfl rfl ?_ | refine w_end8 rfl rfl rfl rfl rfl rfl rfl rfl ?_ | refine w_end9 rfl rfl rfl rfl rfl rfl rfl rfl rfl ?_ | refine w_end10 rfl rfl rfl rfl rfl rfl rfl rfl rfl rfl ?_ | refine w_end11 rfl rfl rfl rfl rfl rfl rfl rfl rfl rfl rfl ?_ | refine w_end12 rfl rfl rfl rfl rfl rfl rfl rfl rfl rfl rfl rfl ?_ | refine w_end13 rfl rfl rfl rfl rfl rfl rfl rfl rfl rfl rfl rfl rfl ?_ | refine w_end14 rfl rfl rfl rfl rfl rfl rfl rfl rfl rfl rfl rfl rfl rfl ?_ | refine w_end15 rfl rfl rfl rfl rfl rfl rfl rfl rfl rfl rfl rfl rfl rfl rfl ?_ | refine w_end16 rfl rfl rfl rfl rfl rfl rfl rfl rfl rfl rfl rfl rfl rfl rfl rfl ?_)
   | ((refine i_cons ?_); first
     | refine k_skip rfl ?_
     | refine k_want rfl ?_
     | refine k_mv rfl ?_
     | refine k_pickT rfl rfl ?_
     | refine k_pickF rfl rfl ?_
     | refine k_notT rfl ?_
     | refine k_notF rfl ?_
     | refine k_add rfl rfl (by omega) ?_
     | refine k_sub rfl rfl (by omega) ?_
     | refine k_mul rfl rfl (by omega) ?_
     | refine k_neg rfl (by omega) ?_
     | refine k_quo rfl rfl (by omega) ?_
     | refine k_rem rfl rfl (by omega) ?_
     | refine k_conv rfl (by omega) ?_
     | refine k_max rfl rfl ?_
     | refine k_min rfl rfl ?_
     | refine k_lssT rfl rfl (by omega) ?_
     | refine k_lssF rfl rfl (by omega) ?_
     | refine k_lss rfl rfl (fun hc => ?_) (fun hc => ?_)
     | refine k_leqT rfl rfl (by omega) ?_
     | refine k_leqF rfl rfl (by omega) ?_
     | refine k_leq rfl rfl (fun hc => ?_) (fun hc => ?_)
     | refine k_gtrT rfl rfl (by omega) ?_
     | refine k_gtrF rfl rfl (by omega) ?_
     | refine k_gtr rfl rfl (fun hc => ?_) (fun hc => ?_)
     | refine k_geqT rfl rfl (by omega) ?_
     | refine k_geqF rfl rfl (by omega) ?_
     | refine k_geq rfl rfl (fun hc => ?_) (fun hc => ?_)
     | refine k_eqlT rfl rfl (by omega) ?_
     | refine k_eqlF rfl rfl (by omega) ?_
     | refine k_eql rfl rfl (fun hc => ?_) (fun hc => ?_)
     | refine k_neqT rfl rfl (by omega) ?_
     | refine k_neqF rfl rfl (by omega) ?_
     | refine k_neq rfl rfl (fun hc => ?_) (fun hc => ?_)
     | refine k_len rfl rfl ?_
     | refine k_ok rfl rfl ?_))
            exact ⟨.inr rfl, rfl⟩
          · repeat' (first
   | refine w_seq ?_
   | refine w_seqN ?_
   | refine w_seqX ?_
   | refine w_seqR ?_
   | refine w_blk ?_
   | refine w_blkN ?_
   | refine w_blkX ?_
   | refine w_blkR ?_
   | refine w_skip ?_
   | refine w_ret ?_
   | refine w_exit ?_
   | refine w_ops ?_
   | refine w_opsD ?_
   | refine d_one ?_
   | refine d_nil ?_
   | ((refine i_cond ?_); first | refine w_condT rfl ?_ | refine w_condF rfl ?_)
   | ((refine i_nil ?_); first | refine d_same ?_ | refine d_ord ?_ | refine d_ext ⟨_, rfl⟩ ?_ | refine d_ext (by assumption) ?_ | refine w_end0 ?_ | refine w_end1 rfl ?_ | refine w_end2 rfl rfl ?_ | refine w_end3 rfl rfl rfl ?_ | refine w_end4 rfl rfl rfl rfl ?_ | refine w_end5 rfl rfl rfl rfl rfl ?_ | refine w_end6 rfl rfl rfl rfl rfl rfl ?_ | refine w_end7 rfl rfl rfl rfl rfl rfl rfl ?_ | refine w_end8 rfl rfl rfl rfl rfl rfl rfl rfl ?_ | refine w_end9 rfl rfl rfl rfl rfl rfl rfl rfl rfl ?_ | refine w_end10 rfl rfl rfl rfl rfl rfl rfl rfl rfl rfl ?_ | refine w_end11 rfl rfl rfl rfl rfl rfl rfl rfl rfl rfl rfl ?_ | refine w_end12 rfl rfl rfl rfl rfl rfl rfl rfl rfl rfl rfl rfl ?_ | refine w_end13 rfl rfl rfl rfl rfl rfl rfl rfl rfl rfl rfl rfl rfl ?_ | refine w_end14 rfl rfl rfl rfl rfl rfl rfl rfl rfl rfl rfl rfl rfl rfl ?_ | refine w_end15 rfl rfl rfl rfl rfl rfl rfl rfl rfl rfl rfl rfl rfl rfl rfl ?_ | refine w_end16 rfl rfl rfl rfl rfl rfl rfl rfl rfl rfl rfl rfl rfl rfl rfl rfl ?_)
   | ((refine i_cons ?_); first
     | refine k_skip rfl ?_
     | refine k_want rfl ?_
     | refine k_mv rfl ?_
     | refine k_pickT rfl rfl ?_
     | refine k_pickF rfl rfl ?_
     | refine k_notT rfl ?_
     | refine k_notF rfl ?_
     | refine k_add rfl rfl (by omega) ?_
     | refine k_sub rfl rfl (by omega) ?_
     | refine k_mul rfl rfl (by omega) ?_
     | refine k_neg rfl (by omega) ?_
     | refine k_quo rfl rfl (by omega) ?_
     | refine k_rem rfl rfl (by omega) ?_
     | refine k_conv rfl (by omega) ?_
     | refine k_max rfl rfl ?_
     | refine k_min rfl rfl ?_
     | refine k_lssT rfl rfl (by omega) ?_
     | refine k_lssF rfl rfl (by omega) ?_
     | refine k_lss rfl rfl (fun hc => ?_) (fun hc => ?_)
     | refine k_leqT rfl rfl (by omega) ?_
     | refine k_leqF rfl rfl (by omega) ?_
     | refine k_leq rfl rfl (fun hc => ?_) (fun hc => ?_)
     | refine k_gtrT rfl rfl (by omega) ?_
     | refine k_gtrF rfl rfl (by omega) ?_
     | refine k_gtr rfl rfl (fun hc => ?_) (fun hc => ?_)
     | refine k_geqT rfl rfl (by omega) ?_
     | refine k_geqF rfl rfl (by omega) ?_
     | refine k_geq rfl rfl (fun hc => ?_) (fun hc => ?_)
     | refine k_eqlT rfl rfl (by omega) ?_
     | refine k_eqlF rfl rfl (by omega) ?_
     | refine k_eql rfl rfl (fun hc => ?_) (fun hc => ?_)
     | refine k_neqT rfl rfl (by omega) ?_
     | refine k_neqF rfl rfl (by omega) ?_
     | refine k_neq rfl rfl (fun hc => ?_) (fun hc => ?_)
     | refine k_len rfl rfl ?_
     | refine k_ok rfl rfl ?_))
            exact ⟨.inr rfl, rfl⟩
    · rw [decide_eq_false hy] at k2
      repeat' (first
        | refine w_seq ?_
        | refine w_seqN ?_
        | refine w_seqX ?_
        | refine w_seqR ?_
        | refine w_blk ?_
        | refine w_blkN ?_
        | refine w_blkX ?_
        | refine w_blkR ?_
        | refine w_skip ?_
        | refine w_ret ?_
        | refine w_exit ?_
        | refine w_ops ?_
        | refine w_opsD ?_
        | refine d_one ?_
        | refine d_nil ?_
        | ((refine i_cond ?_); first | refine w_condT rfl ?_ | refine w_condF rfl ?_)
        | ((refine i_nil ?_); first | refine d_same ?_ | refine d_ord ?_ | refine d_ext ⟨_, rfl⟩ ?_ | refine d_ext (by assumption) ?_ | refine w_end0 ?_ | refine w_end1 rfl ?_ | refine w_end2 rfl rfl ?_ | refine w_end3 rfl rfl rfl ?_ | refine w_end4 rfl rfl rfl rfl ?_ | refine w_end5 rfl rfl rfl rfl rfl ?_ | refine w_end6 rfl rfl rfl rfl rfl rfl ?_ | refine w_end7 rfl rfl rfl rfl rfl rfl rfl ?_ | refine w_end8 rfl rfl rfl rfl rfl rfl rfl rfl ?_ | refine w_end9 rfl rfl rfl rfl rfl rfl rfl rfl rfl ?_ | refine w_end10 rfl rfl rfl rfl rfl rfl rfl rfl rfl rfl ?_ | refine w_end11 rfl rfl rfl rfl rfl rfl rfl rfl rfl rfl rfl ?_ | refine w_end12 rfl rfl rfl rfl rfl rfl rfl rfl rfl rfl rfl rfl ?_ | refine w_end13 rfl rfl rfl rfl rfl rfl rfl rfl rfl rfl rfl rfl rfl ?_ | refine w_end14 rfl rfl rfl rfl rfl rfl rfl rfl rfl rfl rfl rfl rfl rfl ?_ | refine w_end15 rfl rfl rfl rfl rfl rfl rfl rfl rfl rfl rfl rfl rfl rfl rfl ?_ | refine w_end16 rfl rfl rfl rfl rfl rfl rfl rfl rfl rfl rfl rfl rfl rfl rfl rfl ?_)
        | ((refine i_cons ?_); first
          | (refine k_call rfl (awake_call2 _) ?_; rintro v h' ⟨rfl, rfl⟩)
          | (refine k_call rfl k1 ?_; rintro v h' ⟨rfl, rfl⟩)
          | (refine k_call rfl k2 ?_; rintro v h' ⟨rfl, rfl⟩)
          | refine k_skip rfl ?_
          | refine k_want rfl ?_
          | refine k_mv rfl ?_
          | refine k_pickT rfl rfl ?_
          | refine k_pickF rfl rfl ?_
          | refine k_notT rfl ?_
          | refine k_notF rfl ?_
          | refine k_add rfl rfl (by omega) ?_
          | refine k_sub rfl rfl (by omega) ?_
          | refine k_mul rfl rfl (by omega) ?_
          | refine k_neg rfl (by omega) ?_
          | refine k_quo rfl rfl (by omega) ?_
          | refine k_rem rfl rfl (by omega) ?_
          | refine k_conv rfl (by omega) ?_
          | refine k_max rfl rfl ?_
          | refine k_min rfl rfl ?_
          | refine k_lssT rfl rfl (by omega) ?_
          | refine k_lssF rfl rfl (by omega) ?_
          | refine k_lss rfl rfl (fun hc => ?_) (fun hc => ?_)
          | refine k_leqT rfl rfl (by omega) ?_
          | refine k_leqF rfl rfl (by omega) ?_
          | refine k_leq rfl rfl (fun hc => ?_) (fun hc => ?_)
          | refine k_gtrT rfl rfl (by omega) ?_
          | refine k_gtrF rfl rfl (by omega) ?_
          | refine k_gtr rfl rfl (fun hc => ?_) (fun hc => ?_)
          | refine k_geqT rfl rfl (by omega) ?_
          | refine k_geqF rfl rfl (by omega) ?_
          | refine k_geq rfl rfl (fun hc => ?_) (fun hc => ?_)
          | refine k_eqlT rfl rfl (by omega) ?_
          | refine k_eqlF rfl rfl (by omega) ?_
          | refine k_eql rfl rfl (fun hc => ?_) (fun hc => ?_)
          | refine k_neqT rfl rfl (by omega) ?_
          | refine k_neqF rfl rfl (by omega) ?_
          | refine k_neq rfl rfl (fun hc => ?_) (fun hc => ?_)
          | refine k_len rfl rfl ?_
          | refine k_ok rfl rfl ?_))
      exact ⟨.inr rfl, rfl⟩
  · rw [decide_eq_false hx] at k1
    repeat' (first
      | refine w_seq ?_
      | refine w_seqN ?_
      | refine w_seqX ?_
      | refine w_seqR ?_
      | refine w_blk ?_
      | refine w_blkN ?_
      | refine w_blkX ?_
      | refine w_blkR ?_
      | refine w_skip ?_
      | refine w_ret ?_
      | refine w_exit ?_
      | refine w_ops ?_
      | refine w_opsD ?_
      | refine d_one ?_
      | refine d_nil ?_
      | ((refine i_cond ?_); first | refine w_condT rfl ?_ | refine w_condF rfl ?_)
      | ((refine i_nil ?_); first | refine d_same ?_ | refine d_ord ?_ | refine d_ext ⟨_, rfl⟩ ?_ | refine d_ext (by assumption) ?_ | refine w_end0 ?_ | refine w_end1 rfl ?_ | refine w_end2 rfl rfl ?_ | refine w_end3 rfl rfl rfl ?_ | refine w_end4 rfl rfl rfl rfl ?_ | refine w_end5 rfl rfl rfl rfl rfl ?_ | refine w_end6 rfl rfl rfl rfl rfl rfl ?_ | refine w_end7 rfl rfl rfl rfl rfl rfl rfl ?_ | refine w_end8 rfl rfl rfl rfl rfl rfl rfl rfl ?_ | refine w_end9 rfl rfl rfl rfl rfl rfl rfl rfl rfl ?_ | refine w_end10 rfl rfl rfl rfl rfl rfl rfl rfl rfl rfl ?_ | refine w_end11 rfl rfl rfl rfl rfl rfl rfl rfl rfl rfl rfl ?_ | refine w_end12 rfl rfl rfl rfl rfl rfl rfl rfl rfl rfl rfl rfl ?_ | refine w_end13 rfl rfl rfl rfl rfl rfl rfl rfl rfl rfl rfl rfl rfl ?_ | refine w_end14 rfl rfl rfl rfl rfl rfl rfl rfl rfl rfl rfl rfl rfl rfl ?_ | refine w_end15 rfl rfl rfl rfl rfl rfl rfl rfl rfl rfl rfl rfl rfl rfl rfl ?_ | refine w_end16 rfl rfl rfl rfl rfl rfl rfl rfl rfl rfl rfl rfl rfl rfl rfl rfl ?_)
      | ((refine i_cons ?_); first
        | (refine k_call rfl (awake_call2 _) ?_; rintro v h' ⟨rfl, rfl⟩)
        | (refine k_call rfl k1 ?_; rintro v h' ⟨rfl, rfl⟩)
        | refine k_skip rfl ?_
        | refine k_want rfl ?_
        | refine k_mv rfl ?_
        | refine k_pickT rfl rfl ?_
        | refine k_pickF rfl rfl ?_
        | refine k_notT rfl ?_
        | refine k_notF rfl ?_
        | refine k_add rfl rfl (by omega) ?_
        | refine k_sub rfl rfl (by omega) ?_
        | refine k_mul rfl rfl (by omega) ?_
        | refine k_neg rfl (by omega) ?_
        | refine k_quo rfl rfl (by omega) ?_
        | refine k_rem rfl rfl (by omega) ?_
        | refine k_conv rfl (by omega) ?_
        | refine k_max rfl rfl ?_
        | refine k_min rfl rfl ?_
        | refine k_lssT rfl rfl (by omega) ?_
        | refine k_lssF rfl rfl (by omega) ?_
        | refine k_lss rfl rfl (fun hc => ?_) (fun hc => ?_)
        | refine k_leqT rfl rfl (by omega) ?_
        | refine k_leqF rfl rfl (by omega) ?_
        | refine k_leq rfl rfl (fun hc => ?_) (fun hc => ?_)
        | refine k_gtrT rfl rfl (by omega) ?_
        | refine k_gtrF rfl rfl (by omega) ?_
        | refine k_gtr rfl rfl (fun hc => ?_) (fun hc => ?_)
        | refine k_geqT rfl rfl (by omega) ?_
        | refine k_geqF rfl rfl (by omega) ?_
        | refine k_geq rfl rfl (fun hc => ?_) (fun hc => ?_)
        | refine k_eqlT rfl rfl (by omega) ?_
        | refine k_eqlF rfl rfl (by omega) ?_
        | refine k_eql rfl rfl (fun hc => ?_) (fun hc => ?_)
        | refine k_neqT rfl rfl (by omega) ?_
        | refine k_neqF rfl rfl (by omega) ?_
        | refine k_neq rfl rfl (fun hc => ?_) (fun hc => ?_)
        | refine k_len rfl rfl ?_
        | refine k_ok rfl rfl ?_))
    exact ⟨.inr rfl, rfl⟩
end Go.Proofs.YtgmfjhmphiiifaaDoor
