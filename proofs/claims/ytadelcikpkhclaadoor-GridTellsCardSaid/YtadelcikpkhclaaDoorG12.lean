/- The law GridShifts, reckoned. -/
import Derived.Test.YtadelcikpkhclaaDoorG11
namespace Go.Proofs.YtadelcikpkhclaaDoor
open Go.Ab
set_option linter.unusedVariables false
set_option maxRecDepth 20000
attribute [local irreducible] wOps wA wSeq wBlk wRound wOpsD
variable {HK : FuncId → Option Hook}

theorem equal22 (h0 : Heap) (s t : SV) (xs ys : List Int) (hs : IsInts h0 s xs) (ht : IsInts h0 t ys) (e : xs = ys) (hb : xs.length ≤ 1000000) : ∃ v h', Cal FT HK1 22 [.sc s, .sc t] h0 v h' ∧ h' = h0 ∧ v = .sc (.bool true) := by
  subst e; exact call22 rfl h0 s t xs hs ht hb
theorem tr_vg {g : Gr} (hV : Vg g.1.length g) (c r : Int) : VG (tr c r g).1 (tr c r g).2 := by
  have h := hV.tr c r
  refine (vg_iff _).2 ?_
  rw [h.vd.rg.sz.1]; exact h
theorem tr_around {n : Nat} {g : Gr} (h : Rg n g) (a b c d : Int) : tr (a + c + n) (b + d - n) g = tr c d (tr a b g) := by
  rw [tr_tr]
  refine tr_mod h ?_ ?_
  · rw [Int.add_emod_right]
  · rw [show b + d - (n : Int) = b + d + n * (-1) by omega, Int.add_mul_emod_self_left]

set_option maxHeartbeats 8000000 in
theorem shifts (h0 : Heap) (X : SV) (xs : List Int) (hX : IsInts h0 X xs) (O : SV) (os : List Int) (hO : IsInts h0 O os) (a : Int) (ha : -32768 ≤ a ∧ a ≤ 32767) (b : Int) (hb : -32768 ≤ b ∧ b ≤ 32767) (c : Int) (hc : -32768 ≤ c ∧ c ≤ 32767) (d : Int) (hd : -32768 ≤ d ∧ d ≤ 32767) :
    ∃ v h', Cal FT HK1 6 [.agg [X, O], .sc (.int .i16 a), .sc (.int .i16 b), .sc (.int .i16 c), .sc (.int .i16 d)] h0 v h' ∧ v = .sc (.bool true) := by
  refine Cal.of (F := a6) rfl rfl rfl ?_
  have s : Stt h0 h0 [] [(X, O, (xs, os))] := Stt.start ⟨hX, hO⟩
  have hl0 := IsSl.len hX
  generalize hg : (xs, os) = g at *
  obtain rfl : xs = g.1 := by rw [← hg]
  by_cases hf : g.1.length ≤ 16 ∧ g.2.length ≤ 32
  · by_cases hv : VG g.1 g.2
    · have hV := (vg_iff g).1 hv
      have n40 := hV.few
      have hrg := hV.vd.rg
      have vT := tr_vg hV a b
      have k1 := fun h X O hg => few12 h X O g hg
      rw [decide_eq_true hf] at k1
      have k2 := fun h X O hg => valid13 (HK := HK1) rfl rfl h X O g hg
      rw [decide_eq_true hv] at k2
      have k3 := fun h X O hg => valid13 (HK := HK1) rfl rfl h X O (tr a b g) hg
      rw [decide_eq_true vT] at k3
      have hcm := hV.vd.comp_tr a b
      have k4 := fun h X O hg => call15 (HK := HK1) rfl rfl rfl rfl rfl h X O (tr a b g) hg vT
      rw [hcm] at k4
      have l1 := (hrg.tr (a + c + g.1.length) (b + d - g.1.length)).sz
      have hz : tr (a + c + g.1.length) (b + d - g.1.length) g = tr c d (tr a b g) := tr_around hrg a b c d
      have l2 : (tr c d (tr a b g)).1.length ≤ 1000000 := by rw [← hz, l1.1]; omega
      have l3 : (tr c d (tr a b g)).2.length ≤ 1000000 := by rw [← hz, l1.2]; omega
      repeat' (first
        | refine w_seq ?_
        | refine w_seqN ?_
        | refine w_seqX ?_
        | refine w_seqR ?_
        | refine w_blk ?_
        | refine w_blkN ?_
        | refine w_blkX ?_
        | refine w_blkR ?_
        | refine w_skip ?_
        | refine w_ret ?_
        | refine w_exit ?_
        | refine w_ops ?_
        | refine w_opsD ?_
        | refine d_one ?_
        | refine d_nil ?_
        | ((refine i_cond ?_); first | refine w_condT rfl ?_ | refine w_condF rfl ?_)
        | ((refine i_nil ?_); first | refine d_same ?_ | refine d_ord ?_ | refine d_ext ⟨_, rfl⟩ ?_ | refine d_ext (extA _ _ _) ?_ | refine d_ext (by assumption) ?_ | refine w_end0 ?_ | refine w_end1 rfl ?_ | refine w_end2 rfl rfl ?_ | refine w_end3 rfl rfl rfl ?_ | refine w_end4 rfl rfl rfl rfl ?_ | refine w_end5 rfl rfl rfl rfl rfl ?_ | refine w_end6 rfl rfl rfl rfl rfl rfl ?_ | refine w_end7 rfl rfl rfl rfl rfl rfl rfl ?_ | refine w_end8 rfl rfl rfl rfl rfl rfl rfl rfl ?_ | refine w_end9 rfl rfl rfl rfl rfl rfl rfl rfl rfl ?_ | refine w_end10 rfl rfl rfl rfl rfl rfl rfl rfl rfl rfl ?_ | refine w_end11 rfl rfl rfl rfl rfl rfl rfl rfl rfl rfl rfl ?_ | refine w_end12 rfl rfl rfl rfl rfl rfl rfl rfl rfl rfl rfl rfl ?_ | refine w_end13 rfl rfl rfl rfl rfl rfl rfl rfl rfl rfl rfl rfl rfl ?_ | refine w_end14 rfl rfl rfl rfl rfl rfl rfl rfl rfl rfl rfl rfl rfl rfl ?_ | refine w_end15 rfl rfl rfl rfl rfl rfl rfl rfl rfl rfl rfl rfl rfl rfl rfl ?_ | refine w_end16 rfl rfl rfl rfl rfl rfl rfl rfl rfl rfl rfl rfl rfl rfl rfl rfl ?_)
        | ((refine i_cons ?_); first
          | (refine k_boxC rfl ?_; intro hh ee cc; have s := (s.ext ee).addC cc)
          | (refine k_call rfl (awake_call _) ?_; rintro v hh ⟨rfl, rfl⟩)
          | refine k_ldC rfl (s.c 0 rfl) ?_
          | refine k_ldC rfl (s.c 1 rfl) ?_
          | refine k_ldC rfl (s.c 2 rfl) ?_
          | refine k_ldC rfl (s.c 3 rfl) ?_
          | refine k_ldC rfl (s.c 4 rfl) ?_
          | refine k_ldC0 rfl (s.c 0 rfl) ?_
          | refine k_ldC1 rfl (s.c 0 rfl) ?_
          | refine k_ldC0 rfl (s.c 1 rfl) ?_
          | refine k_ldC1 rfl (s.c 1 rfl) ?_
          | refine k_ldC0 rfl (s.c 2 rfl) ?_
          | refine k_ldC1 rfl (s.c 2 rfl) ?_
          | refine k_ldC0 rfl (s.c 3 rfl) ?_
          | refine k_ldC1 rfl (s.c 3 rfl) ?_
          | refine k_ldC0 rfl (s.c 4 rfl) ?_
          | refine k_ldC1 rfl (s.c 4 rfl) ?_
          | (refine k_call rfl (k1 _ _ _ (s.g 0 rfl)) ?_; rintro v hh ⟨ee, rfl⟩; have s := s.ext ee)
          | (refine k_call rfl (k2 _ _ _ (s.g 0 rfl)) ?_; rintro v hh ⟨ee, rfl⟩; have s := s.ext ee)
          | (refine k_call rfl (k3 _ _ _ (s.g 2 rfl)) ?_; rintro v hh ⟨ee, rfl⟩; have s := s.ext ee)
          | (refine k_call rfl (k4 _ _ _ (s.g 2 rfl)) ?_; rintro v hh ⟨ee, rfl⟩; have s := s.ext ee)
          | (refine k_call rfl (call15 (HK := HK1) rfl rfl rfl rfl rfl _ _ _ _ (s.g 3 rfl) hv) ?_; rintro v hh ⟨ee, rfl⟩; have s := s.ext ee)
          | refine k_conv rfl (by omega) ?_
          | refine k_len rfl hl0 ?_
          | (refine k_call rfl (call23 rfl rfl rfl rfl _ _ _ _ a b (s.g 0 rfl) hv) ?_; rintro v hh ⟨ee, X1, O1, rfl, gg⟩; have s := (s.ext ee).addG gg)
          | (refine k_call rfl (call23 rfl rfl rfl rfl _ _ _ _ c d (s.g 0 rfl) vT) ?_; rintro v hh ⟨ee, X1, O1, rfl, gg⟩; have s := (s.ext ee).addG gg)
          | (refine k_call rfl (call23 rfl rfl rfl rfl _ _ _ _ (a + c + g.1.length) (b + d - g.1.length) (s.g 2 rfl) hv) ?_; rintro v hh ⟨ee, X1, O1, rfl, gg⟩; rw [hz] at gg; have s := (s.ext ee).addG gg)
          | (refine k_newst rfl ?_; intro hh ee cc; have s := (s.ext ee).addC cc)
          | (refine k_call rfl (equal22 _ _ _ _ _ (s.g 1 rfl).x (s.g 0 rfl).x rfl l2) ?_; rintro v hh ⟨rfl, rfl⟩)
          | (refine k_call rfl (equal22 _ _ _ _ _ (s.g 1 rfl).o (s.g 0 rfl).o rfl l3) ?_; rintro v hh ⟨rfl, rfl⟩)
          | refine k_skip rfl ?_
          | refine k_want rfl ?_
          | refine k_mv rfl ?_
          | refine k_pickT rfl rfl ?_
          | refine k_pickF rfl rfl ?_
          | refine k_notT rfl ?_
          | refine k_notF rfl ?_
          | refine k_add rfl rfl (by omega) ?_
          | refine k_sub rfl rfl (by omega) ?_
          | refine k_mul rfl rfl (by omega) ?_
          | refine k_neg rfl (by omega) ?_
          | refine k_quo rfl rfl (by omega) ?_
          | refine k_rem rfl rfl (by omega) ?_
          | refine k_conv rfl (by omega) ?_
          | refine k_max rfl rfl ?_
          | refine k_min rfl rfl ?_
          | refine k_lssT rfl rfl (by omega) ?_
          | refine k_lssF rfl rfl (by omega) ?_
          | refine k_lss rfl rfl (fun hc => ?_) (fun hc => ?_)
          | refine k_leqT rfl rfl (by omega) ?_
          | refine k_leqF rfl rfl (by omega) ?_
          | refine k_leq rfl rfl (fun hc => ?_) (fun hc => ?_)
          | refine k_gtrT rfl rfl (by omega) ?_
          | refine k_gtrF rfl rfl (by omega) ?_
          | refine k_gtr rfl rfl (fun hc => ?_) (fun hc => ?_)
          | refine k_geqT rfl rfl (by omega) ?_
          | refine k_geqF rfl rfl (by omega) ?_
          | refine k_geq rfl rfl (fun hc => ?_) (fun hc => ?_)
          | refine k_eqlT rfl rfl (by omega) ?_
          | refine k_eqlF rfl rfl (by omega) ?_
          | refine k_eql rfl rfl (fun hc => ?_) (fun hc => ?_)
          | refine k_neqT rfl rfl (by omega) ?_
          | refine k_neqF rfl rfl (by omega) ?_
          | refine k_neq rfl rfl (fun hc => ?_) (fun hc => ?_)
          | refine k_len rfl rfl ?_
          | refine k_ok rfl rfl ?_))
      exact ⟨.inr rfl, rfl⟩
    · have k1 := fun h X O hg => few12 h X O g hg
      rw [decide_eq_true hf] at k1
      have k2 := fun h X O hg => valid13 (HK := HK1) rfl rfl h X O g hg
      rw [decide_eq_false hv] at k2
      repeat' (first
        | refine w_seq ?_
        | refine w_seqN ?_
        | refine w_seqX ?_
        | refine w_seqR ?_
        | refine w_blk ?_
        | refine w_blkN ?_
        | refine w_blkX ?_
        | refine w_blkR ?_
        | refine w_skip ?_
        | refine w_ret ?_
        | refine w_exit ?_
        | refine w_ops ?_
        | refine w_opsD ?_
        | refine d_one ?_
        | refine d_nil ?_
        | ((refine i_cond ?_); first | refine w_condT rfl ?_ | refine w_condF rfl ?_)
        | ((refine i_nil ?_); first | refine d_same ?_ | refine d_ord ?_ | refine d_ext ⟨_, rfl⟩ ?_ | refine d_ext (extA _ _ _) ?_ | refine d_ext (by assumption) ?_ | refine w_end0 ?_ | refine w_end1 rfl ?_ | refine w_end2 rfl rfl ?_ | refine w_end3 rfl rfl rfl ?_ | refine w_end4 rfl rfl rfl rfl ?_ | refine w_end5 rfl rfl rfl rfl rfl ?_ | refine w_end6 rfl rfl rfl rfl rfl rfl ?_ | refine w_end7 rfl rfl rfl rfl rfl rfl rfl ?_ | refine w_end8 rfl rfl rfl rfl rfl rfl rfl rfl ?_ | refine w_end9 rfl rfl rfl rfl rfl rfl rfl rfl rfl ?_ | refine w_end10 rfl rfl rfl rfl rfl rfl rfl rfl rfl rfl ?_ | refine w_end11 rfl rfl rfl rfl rfl rfl rfl rfl rfl rfl rfl ?_ | refine w_end12 rfl rfl rfl rfl rfl rfl rfl rfl rfl rfl rfl rfl ?_ | refine w_end13 rfl rfl rfl rfl rfl rfl rfl rfl rfl rfl rfl rfl rfl ?_ | refine w_end14 rfl rfl rfl rfl rfl rfl rfl rfl rfl rfl rfl rfl rfl rfl ?_ | refine w_end15 rfl rfl rfl rfl rfl rfl rfl rfl rfl rfl rfl rfl rfl rfl rfl ?_ | refine w_end16 rfl rfl rfl rfl rfl rfl rfl rfl rfl rfl rfl rfl rfl rfl rfl rfl ?_)
        | ((refine i_cons ?_); first
          | (refine k_boxC rfl ?_; intro hh ee cc; have s := (s.ext ee).addC cc)
          | (refine k_call rfl (awake_call _) ?_; rintro v hh ⟨rfl, rfl⟩)
          | refine k_ldC rfl (s.c 0 rfl) ?_
          | refine k_ldC rfl (s.c 1 rfl) ?_
          | refine k_ldC rfl (s.c 2 rfl) ?_
          | refine k_ldC rfl (s.c 3 rfl) ?_
          | refine k_ldC rfl (s.c 4 rfl) ?_
          | refine k_ldC0 rfl (s.c 0 rfl) ?_
          | refine k_ldC1 rfl (s.c 0 rfl) ?_
          | refine k_ldC0 rfl (s.c 1 rfl) ?_
          | refine k_ldC1 rfl (s.c 1 rfl) ?_
          | refine k_ldC0 rfl (s.c 2 rfl) ?_
          | refine k_ldC1 rfl (s.c 2 rfl) ?_
          | refine k_ldC0 rfl (s.c 3 rfl) ?_
          | refine k_ldC1 rfl (s.c 3 rfl) ?_
          | refine k_ldC0 rfl (s.c 4 rfl) ?_
          | refine k_ldC1 rfl (s.c 4 rfl) ?_
          | (refine k_call rfl (k1 _ _ _ (s.g 0 rfl)) ?_; rintro v hh ⟨ee, rfl⟩; have s := s.ext ee)
          | (refine k_call rfl (k2 _ _ _ (s.g 0 rfl)) ?_; rintro v hh ⟨ee, rfl⟩; have s := s.ext ee)
          | refine k_skip rfl ?_
          | refine k_want rfl ?_
          | refine k_mv rfl ?_
          | refine k_pickT rfl rfl ?_
          | refine k_pickF rfl rfl ?_
          | refine k_notT rfl ?_
          | refine k_notF rfl ?_
          | refine k_add rfl rfl (by omega) ?_
          | refine k_sub rfl rfl (by omega) ?_
          | refine k_mul rfl rfl (by omega) ?_
          | refine k_neg rfl (by omega) ?_
          | refine k_quo rfl rfl (by omega) ?_
          | refine k_rem rfl rfl (by omega) ?_
          | refine k_conv rfl (by omega) ?_
          | refine k_max rfl rfl ?_
          | refine k_min rfl rfl ?_
          | refine k_lssT rfl rfl (by omega) ?_
          | refine k_lssF rfl rfl (by omega) ?_
          | refine k_lss rfl rfl (fun hc => ?_) (fun hc => ?_)
          | refine k_leqT rfl rfl (by omega) ?_
          | refine k_leqF rfl rfl (by omega) ?_
          | refine k_leq rfl rfl (fun hc => ?_) (fun hc => ?_)
          | refine k_gtrT rfl rfl (by omega) ?_
          | refine k_gtrF rfl rfl (by omega) ?_
          | refine k_gtr rfl rfl (fun hc => ?_) (fun hc => ?_)
          | refine k_geqT rfl rfl (by omega) ?_
          | refine k_geqF rfl rfl (by omega) ?_
          | refine k_geq rfl rfl (fun hc => ?_) (fun hc => ?_)
          | refine k_eqlT rfl rfl (by omega) ?_
          | refine k_eqlF rfl rfl (by omega) ?_
          | refine k_eql rfl rfl (fun hc => ?_) (fun hc => ?_)
          | refine k_neqT rfl rfl (by omega) ?_
          | refine k_neqF rfl rfl (by omega) ?_
          | refine k_neq rfl rfl (fun hc => ?_) (fun hc => ?_)
          | refine k_len rfl rfl ?_
          | refine k_ok rfl rfl ?_))
      exact ⟨.inr rfl, rfl⟩
  · have k1 := fun h X O hg => few12 h X O g hg
    rw [decide_eq_false hf] at k1
    repeat' (first
      | refine w_seq ?_
      | refine w_seqN ?_
      | refine w_seqX ?_
      | refine w_seqR ?_
      | refine w_blk ?_
      | refine w_blkN ?_
      | refine w_blkX ?_
      | refine w_blkR ?_
      | refine w_skip ?_
      | refine w_ret ?_
      | refine w_exit ?_
      | refine w_ops ?_
      | refine w_opsD ?_
      | refine d_one ?_
      | refine d_nil ?_
      | ((refine i_cond ?_); first | refine w_condT rfl ?_ | refine w_condF rfl ?_)
      | ((refine i_nil ?_); first | refine d_same ?_ | refine d_ord ?_ | refine d_ext ⟨_, rfl⟩ ?_ | refine d_ext (extA _ _ _) ?_ | refine d_ext (by assumption) ?_ | refine w_end0 ?_ | refine w_end1 rfl ?_ | refine w_end2 rfl rfl ?_ | refine w_end3 rfl rfl rfl ?_ | refine w_end4 rfl rfl rfl rfl ?_ | refine w_end5 rfl rfl rfl rfl rfl ?_ | refine w_end6 rfl rfl rfl rfl rfl rfl ?_ | refine w_end7 rfl rfl rfl rfl rfl rfl rfl ?_ | refine w_end8 rfl rfl rfl rfl rfl rfl rfl rfl ?_ | refine w_end9 rfl rfl rfl rfl rfl rfl rfl rfl rfl ?_ | refine w_end10 rfl rfl rfl rfl rfl rfl rfl rfl rfl rfl ?_ | refine w_end11 rfl rfl rfl rfl rfl rfl rfl rfl rfl rfl rfl ?_ | refine w_end12 rfl rfl rfl rfl rfl rfl rfl rfl rfl rfl rfl rfl ?_ | refine w_end13 rfl rfl rfl rfl rfl rfl rfl rfl rfl rfl rfl rfl rfl ?_ | refine w_end14 rfl rfl rfl rfl rfl rfl rfl rfl rfl rfl rfl rfl rfl rfl ?_ | refine w_end15 rfl rfl rfl rfl rfl rfl rfl rfl rfl rfl rfl rfl rfl rfl rfl ?_ | refine w_end16 rfl rfl rfl rfl rfl rfl rfl rfl rfl rfl rfl rfl rfl rfl rfl rfl ?_)
      | ((refine i_cons ?_); first
        | (refine k_boxC rfl ?_; intro hh ee cc; have s := (s.ext ee).addC cc)
        | (refine k_call rfl (awake_call _) ?_; rintro v hh ⟨rfl, rfl⟩)
        | refine k_ldC rfl (s.c 0 rfl) ?_
        | refine k_ldC rfl (s.c 1 rfl) ?_
        | refine k_ldC rfl (s.c 2 rfl) ?_
        | refine k_ldC rfl (s.c 3 rfl) ?_
        | refine k_ldC rfl (s.c 4 rfl) ?_
        | refine k_ldC0 rfl (s.c 0 rfl) ?_
        | refine k_ldC1 rfl (s.c 0 rfl) ?_
        | refine k_ldC0 rfl (s.c 1 rfl) ?_
        | refine k_ldC1 rfl (s.c 1 rfl) ?_
        | refine k_ldC0 rfl (s.c 2 rfl) ?_
        | refine k_ldC1 rfl (s.c 2 rfl) ?_
        | refine k_ldC0 rfl (s.c 3 rfl) ?_
        | refine k_ldC1 rfl (s.c 3 rfl) ?_
        | refine k_ldC0 rfl (s.c 4 rfl) ?_
        | refine k_ldC1 rfl (s.c 4 rfl) ?_
        | (refine k_call rfl (k1 _ _ _ (s.g 0 rfl)) ?_; rintro v hh ⟨ee, rfl⟩; have s := s.ext ee)
        | refine k_skip rfl ?_
        | refine k_want rfl ?_
        | refine k_mv rfl ?_
        | refine k_pickT rfl rfl ?_
        | refine k_pickF rfl rfl ?_
        | refine k_notT rfl ?_
        | refine k_notF rfl ?_
        | refine k_add rfl rfl (by omega) ?_
        | refine k_sub rfl rfl (by omega) ?_
        | refine k_mul rfl rfl (by omega) ?_
        | refine k_neg rfl (by omega) ?_
        | refine k_quo rfl rfl (by omega) ?_
        | refine k_rem rfl rfl (by omega) ?_
        | refine k_conv rfl (by omega) ?_
        | refine k_max rfl rfl ?_
        | refine k_min rfl rfl ?_
        | refine k_lssT rfl rfl (by omega) ?_
        | refine k_lssF rfl rfl (by omega) ?_
        | refine k_lss rfl rfl (fun hc => ?_) (fun hc => ?_)
        | refine k_leqT rfl rfl (by omega) ?_
        | refine k_leqF rfl rfl (by omega) ?_
        | refine k_leq rfl rfl (fun hc => ?_) (fun hc => ?_)
        | refine k_gtrT rfl rfl (by omega) ?_
        | refine k_gtrF rfl rfl (by omega) ?_
        | refine k_gtr rfl rfl (fun hc => ?_) (fun hc => ?_)
        | refine k_geqT rfl rfl (by omega) ?_
        | refine k_geqF rfl rfl (by omega) ?_
        | refine k_geq rfl rfl (fun hc => ?_) (fun hc => ?_)
        | refine k_eqlT rfl rfl (by omega) ?_
        | refine k_eqlF rfl rfl (by omega) ?_
        | refine k_eql rfl rfl (fun hc => ?_) (fun hc => ?_)
        | refine k_neqT rfl rfl (by omega) ?_
        | refine k_neqF rfl rfl (by omega) ?_
        | refine k_neq rfl rfl (fun hc => ?_) (fun hc => ?_)
        | refine k_len rfl rfl ?_
        | refine k_ok rfl rfl ?_))
    exact ⟨.inr rfl, rfl⟩
end Go.Proofs.YtadelcikpkhclaaDoor
