/- The law GridLeast, reckoned. -/
import Derived.Test.YtadelcikpkhclaaDoorG13
namespace Go.Proofs.YtadelcikpkhclaaDoor
open Go.Ab
set_option linter.unusedVariables false
set_option maxRecDepth 20000
attribute [local irreducible] wOps wA wSeq wBlk wRound wOpsD
variable {HK : FuncId → Option Hook}

theorem IsLst.nat {n : Nat} {g m : Gr} (h : Rg n g) (hm : IsLst g m) : ∃ c r : Nat, c < n ∧ r < n ∧ m = tr c r g := by
  have h0 := h.pos
  obtain ⟨c, r, rfl⟩ := hm.mem
  have a1 : 0 ≤ c % n := Int.emod_nonneg _ (by omega)
  have a2 : c % n < n := Int.emod_lt_of_pos _ (by omega)
  have a3 : 0 ≤ r % n := Int.emod_nonneg _ (by omega)
  have a4 : r % n < n := Int.emod_lt_of_pos _ (by omega)
  refine ⟨(c % n).toNat, (r % n).toNat, by omega, by omega, tr_mod h ?_ ?_⟩
  · rw [Int.toNat_of_nonneg a1, Int.emod_emod_of_dvd _ (Int.dvd_refl _)]
  · rw [Int.toNat_of_nonneg a3, Int.emod_emod_of_dvd _ (Int.dvd_refl _)]

set_option maxHeartbeats 8000000 in
theorem leasts (h0 : Heap) (X : SV) (xs : List Int) (hX : IsInts h0 X xs) (O : SV) (os : List Int) (hO : IsInts h0 O os) (a : Int) (ha : -32768 ≤ a ∧ a ≤ 32767) (b : Int) (hb : -32768 ≤ b ∧ b ≤ 32767) :
    ∃ v h', Cal FT HK1 7 [.agg [X, O], .sc (.int .i16 a), .sc (.int .i16 b)] h0 v h' ∧ v = .sc (.bool true) := by
  refine Cal.of (F := a7) rfl rfl rfl ?_
  have s : Stt h0 h0 [] [(X, O, (xs, os))] := Stt.start ⟨hX, hO⟩
  generalize hg : (xs, os) = g at *
  by_cases hf : g.1.length ≤ 16 ∧ g.2.length ≤ 32
  · by_cases hv : VG g.1 g.2
    · have hV := (vg_iff g).1 hv
      have n40 := hV.few
      have hrg := hV.vd.rg
      have vT := tr_vg hV a b
      have hls := leastG_is hrg
      obtain ⟨c0, r0, hc0, hr0, hle⟩ := hls.nat hrg
      have vL : VG (leastG g).1 (leastG g).2 := by rw [hle]; exact tr_vg hV c0 r0
      have hx0 := hls.head hrg
      have szL := (hls.sz hrg).sz
      have hm1 : leastG (tr a b g) = leastG g := leastG_tr hrg a b
      have hm2 : leastG (leastG g) = leastG g := leastG_leastG hrg
      have n2 := hV.two
      have hpos : 0 < (leastG g).1.length := by rw [szL.1]; omega
      have l2 : (leastG g).1.length ≤ 1000000 := by rw [szL.1]; omega
      have l3 : (leastG g).2.length ≤ 1000000 := by rw [szL.2]; omega
      have k1 := fun h X O hg => few12 h X O g hg
      rw [decide_eq_true hf] at k1
      have k2 := fun h X O hg => valid13 (HK := HK1) rfl rfl h X O g hg
      rw [decide_eq_true hv] at k2
      have hll : ∀ {h : Heap} {s : SV}, IsInts h s (leastG g).1 → lenS false s = some ((g.1.length : Nat) : Int) := fun h => by have := IsSl.len h; rwa [szL.1] at this
      have k4 := fun h X O hg => call24 (HK := HK1) rfl rfl rfl rfl rfl rfl rfl rfl h X O (tr a b g) hg vT
      rw [hm1] at k4
      have k5 := fun h X O hg => call24 (HK := HK1) rfl rfl rfl rfl rfl rfl rfl rfl h X O (leastG g) hg vL
      rw [hm2] at k5
      repeat' (first
        | refine w_seq ?_
        | refine w_seqN ?_
        | refine w_seqX ?_
        | refine w_seqR ?_
        | refine w_blk ?_
        | refine w_blkN ?_
        | refine w_blkX ?_
        | refine w_blkR ?_
        | refine w_skip ?_
        | refine w_ret ?_
        | refine w_exit ?_
        | refine w_ops ?_
        | refine w_opsD ?_
        | refine d_one ?_
        | refine d_nil ?_
        | ((refine i_cond ?_); first | refine w_condT rfl ?_ | refine w_condF rfl ?_)
        | ((refine i_nil ?_); first | refine d_same ?_ | refine d_ord ?_ | refine d_ext ⟨_, rfl⟩ ?_ | refine d_ext (extA _ _ _) ?_ | refine d_ext (by assumption) ?_ | refine w_end0 ?_ | refine w_end1 rfl ?_ | refine w_end2 rfl rfl ?_ | refine w_end3 rfl rfl rfl ?_ | refine w_end4 rfl rfl rfl rfl ?_ | refine w_end5 rfl rfl rfl rfl rfl ?_ | refine w_end6 rfl rfl rfl rfl rfl rfl ?_ | refine w_end7 rfl rfl rfl rfl rfl rfl rfl ?_ | refine w_end8 rfl rfl rfl rfl rfl rfl rfl rfl ?_ | refine w_end9 rfl rfl rfl rfl rfl rfl rfl rfl rfl ?_ | refine w_end10 rfl rfl rfl rfl rfl rfl rfl rfl rfl rfl ?_ | refine w_end11 rfl rfl rfl rfl rfl rfl rfl rfl rfl rfl rfl ?_ | refine w_end12 rfl rfl rfl rfl rfl rfl rfl rfl rfl rfl rfl rfl ?_ | refine w_end13 rfl rfl rfl rfl rfl rfl rfl rfl rfl rfl rfl rfl rfl ?_ | refine w_end14 rfl rfl rfl rfl rfl rfl rfl rfl rfl rfl rfl rfl rfl rfl ?_ | refine w_end15 rfl rfl rfl rfl rfl rfl rfl rfl rfl rfl rfl rfl rfl rfl rfl ?_ | refine w_end16 rfl rfl rfl rfl rfl rfl rfl rfl rfl rfl rfl rfl rfl rfl rfl rfl ?_)
        | ((refine i_cons ?_); first
          | (refine k_boxC rfl ?_; intro hh ee cc; have s := (s.ext ee).addC cc)
          | (refine k_call rfl (awake_call _) ?_; rintro v hh ⟨rfl, rfl⟩)
          | refine k_ldC rfl (s.c 0 rfl) ?_
          | refine k_ldC rfl (s.c 1 rfl) ?_
          | refine k_ldC rfl (s.c 2 rfl) ?_
          | refine k_ldC rfl (s.c 3 rfl) ?_
          | refine k_ldC rfl (s.c 4 rfl) ?_
          | refine k_ldC0 rfl (s.c 0 rfl) ?_
          | refine k_ldC1 rfl (s.c 0 rfl) ?_
          | refine k_ldC0 rfl (s.c 1 rfl) ?_
          | refine k_ldC1 rfl (s.c 1 rfl) ?_
          | refine k_ldC0 rfl (s.c 2 rfl) ?_
          | refine k_ldC1 rfl (s.c 2 rfl) ?_
          | refine k_ldC0 rfl (s.c 3 rfl) ?_
          | refine k_ldC1 rfl (s.c 3 rfl) ?_
          | refine k_ldC0 rfl (s.c 4 rfl) ?_
          | refine k_ldC1 rfl (s.c 4 rfl) ?_
          | (refine k_call rfl (k1 _ _ _ (s.g 0 rfl)) ?_; rintro v hh ⟨ee, rfl⟩; have s := s.ext ee)
          | (refine k_call rfl (k2 _ _ _ (s.g 0 rfl)) ?_; rintro v hh ⟨ee, rfl⟩; have s := s.ext ee)
          | refine k_conv rfl (by omega) ?_
          | (refine k_call rfl (call23 rfl rfl rfl rfl _ _ _ _ a b (s.g 0 rfl) hv) ?_; rintro v hh ⟨ee, X1, O1, rfl, gg⟩; have s := (s.ext ee).addG gg)
          | (refine k_call rfl (call24 rfl rfl rfl rfl rfl rfl rfl rfl _ _ _ _ (s.g 1 rfl) hv) ?_; rintro v hh ⟨ee, LX, LO, rfl, gg⟩; obtain ⟨iL, oL, cL, rfl, -⟩ := IsInts.at gg.x hx0; have s := (s.ext ee).addG gg)
          | (refine k_call rfl (k4 _ _ _ (s.g 1 rfl)) ?_; rintro v hh ⟨ee, X1, O1, rfl, gg⟩; have s := (s.ext ee).addG gg)
          | (refine k_call rfl (k5 _ _ _ (s.g 1 rfl)) ?_; rintro v hh ⟨ee, X1, O1, rfl, gg⟩; have s := (s.ext ee).addG gg)
          | (refine k_newst rfl ?_; intro hh ee cc; have s := (s.ext ee).addC cc)
          | (refine k_call rfl (equal22 _ _ _ _ _ (s.g 2 rfl).x (s.g 1 rfl).x rfl l2) ?_; rintro v hh ⟨rfl, rfl⟩)
          | (refine k_call rfl (equal22 _ _ _ _ _ (s.g 2 rfl).o (s.g 1 rfl).o rfl l3) ?_; rintro v hh ⟨rfl, rfl⟩)
          | (refine k_call rfl (equal22 _ _ _ _ _ (s.g 2 rfl).x (s.g 0 rfl).x rfl l2) ?_; rintro v hh ⟨rfl, rfl⟩)
          | (refine k_call rfl (equal22 _ _ _ _ _ (s.g 2 rfl).o (s.g 0 rfl).o rfl l3) ?_; rintro v hh ⟨rfl, rfl⟩)
          | refine k_len rfl (hll (s.g 2 rfl).x) ?_
          | refine k_idxA rfl rfl (by omega) ?_
          | (obtain ⟨_, _, _, e, hr⟩ := IsInts.at (s.g 2 rfl).x hx0; cases e; refine k_ld rfl hr ?_)
          | refine k_skip rfl ?_
          | refine k_want rfl ?_
          | refine k_mv rfl ?_
          | refine k_pickT rfl rfl ?_
          | refine k_pickF rfl rfl ?_
          | refine k_notT rfl ?_
          | refine k_notF rfl ?_
          | refine k_add rfl rfl (by omega) ?_
          | refine k_sub rfl rfl (by omega) ?_
          | refine k_mul rfl rfl (by omega) ?_
          | refine k_neg rfl (by omega) ?_
          | refine k_quo rfl rfl (by omega) ?_
          | refine k_rem rfl rfl (by omega) ?_
          | refine k_conv rfl (by omega) ?_
          | refine k_max rfl rfl ?_
          | refine k_min rfl rfl ?_
          | refine k_lssT rfl rfl (by omega) ?_
          | refine k_lssF rfl rfl (by omega) ?_
          | refine k_lss rfl rfl (fun hc => ?_) (fun hc => ?_)
          | refine k_leqT rfl rfl (by omega) ?_
          | refine k_leqF rfl rfl (by omega) ?_
          | refine k_leq rfl rfl (fun hc => ?_) (fun hc => ?_)
          | refine k_gtrT rfl rfl (by omega) ?_
          | refine k_gtrF rfl rfl (by omega) ?_
          | refine k_gtr rfl rfl (fun hc => ?_) (fun hc => ?_)
          | refine k_geqT rfl rfl (by omega) ?_
          | refine k_geqF rfl rfl (by omega) ?_
          | refine k_geq rfl rfl (fun hc => ?_) (fun hc => ?_)
          | refine k_eqlT rfl rfl (by omega) ?_
          | refine k_eqlF rfl rfl (by omega) ?_
          | refine k_eql rfl rfl (fun hc => ?_) (fun hc => ?_)
          | refine k_neqT rfl rfl (by omega) ?_
          | refine k_neqF rfl rfl (by omega) ?_
          | refine k_neq rfl rfl (fun hc => ?_) (fun hc => ?_)
          | refine k_len rfl rfl ?_
          | refine k_ok rfl rfl ?_))
      have s2 : Stt h0 _ _ _ := Stt.addG (Stt.addG (Stt.addC (Stt.addC (F := []) (G := []) ⟨s.e, fun i q a b hi => by simp at hi, fun i q a b hi => by simp at hi⟩ (s.c 4 rfl)) (s.c 2 rfl)) (s.g 4 rfl)) (s.g 2 rfl)
      refine w_loop (I7 h0 _ _ g.1.length c0 _ _ _ _ g (leastG g)) (cnt g.1.length 118) R7 ⟨0, Nat.zero_le _, s2, rfl⟩ (round7 h0 _ _ g.1.length r0 c0 _ _ _ _ g (leastG g) rfl hV hr0 hc0 hle) ?_
      rintro ex E' h' ⟨rfl, rfl⟩
      repeat' (first
        | refine w_seq ?_
        | refine w_seqN ?_
        | refine w_seqX ?_
        | refine w_seqR ?_
        | refine w_blk ?_
        | refine w_blkN ?_
        | refine w_blkX ?_
        | refine w_blkR ?_
        | refine w_skip ?_
        | refine w_ret ?_
        | refine w_exit ?_
        | refine w_ops ?_
        | refine w_opsD ?_
        | refine d_one ?_
        | refine d_nil ?_
        | ((refine i_cond ?_); first | refine w_condT rfl ?_ | refine w_condF rfl ?_)
        | ((refine i_nil ?_); first | refine d_same ?_ | refine d_ord ?_ | refine d_ext ⟨_, rfl⟩ ?_ | refine d_ext (extA _ _ _) ?_ | refine d_ext (by assumption) ?_ | refine w_end0 ?_ | refine w_end1 rfl ?_ | refine w_end2 rfl rfl ?_ | refine w_end3 rfl rfl rfl ?_ | refine w_end4 rfl rfl rfl rfl ?_ | refine w_end5 rfl rfl rfl rfl rfl ?_ | refine w_end6 rfl rfl rfl rfl rfl rfl ?_ | refine w_end7 rfl rfl rfl rfl rfl rfl rfl ?_ | refine w_end8 rfl rfl rfl rfl rfl rfl rfl rfl ?_ | refine w_end9 rfl rfl rfl rfl rfl rfl rfl rfl rfl ?_ | refine w_end10 rfl rfl rfl rfl rfl rfl rfl rfl rfl rfl ?_ | refine w_end11 rfl rfl rfl rfl rfl rfl rfl rfl rfl rfl rfl ?_ | refine w_end12 rfl rfl rfl rfl rfl rfl rfl rfl rfl rfl rfl rfl ?_ | refine w_end13 rfl rfl rfl rfl rfl rfl rfl rfl rfl rfl rfl rfl rfl ?_ | refine w_end14 rfl rfl rfl rfl rfl rfl rfl rfl rfl rfl rfl rfl rfl rfl ?_ | refine w_end15 rfl rfl rfl rfl rfl rfl rfl rfl rfl rfl rfl rfl rfl rfl rfl ?_ | refine w_end16 rfl rfl rfl rfl rfl rfl rfl rfl rfl rfl rfl rfl rfl rfl rfl rfl ?_)
        | ((refine i_cons ?_); first
          | refine k_skip rfl ?_
          | refine k_want rfl ?_
          | refine k_mv rfl ?_
          | refine k_pickT rfl rfl ?_
          | refine k_pickF rfl rfl ?_
          | refine k_notT rfl ?_
          | refine k_notF rfl ?_
          | refine k_add rfl rfl (by omega) ?_
          | refine k_sub rfl rfl (by omega) ?_
          | refine k_mul rfl rfl (by omega) ?_
          | refine k_neg rfl (by omega) ?_
          | refine k_quo rfl rfl (by omega) ?_
          | refine k_rem rfl rfl (by omega) ?_
          | refine k_conv rfl (by omega) ?_
          | refine k_max rfl rfl ?_
          | refine k_min rfl rfl ?_
          | refine k_lssT rfl rfl (by omega) ?_
          | refine k_lssF rfl rfl (by omega) ?_
          | refine k_lss rfl rfl (fun hc => ?_) (fun hc => ?_)
          | refine k_leqT rfl rfl (by omega) ?_
          | refine k_leqF rfl rfl (by omega) ?_
          | refine k_leq rfl rfl (fun hc => ?_) (fun hc => ?_)
          | refine k_gtrT rfl rfl (by omega) ?_
          | refine k_gtrF rfl rfl (by omega) ?_
          | refine k_gtr rfl rfl (fun hc => ?_) (fun hc => ?_)
          | refine k_geqT rfl rfl (by omega) ?_
          | refine k_geqF rfl rfl (by omega) ?_
          | refine k_geq rfl rfl (fun hc => ?_) (fun hc => ?_)
          | refine k_eqlT rfl rfl (by omega) ?_
          | refine k_eqlF rfl rfl (by omega) ?_
          | refine k_eql rfl rfl (fun hc => ?_) (fun hc => ?_)
          | refine k_neqT rfl rfl (by omega) ?_
          | refine k_neqF rfl rfl (by omega) ?_
          | refine k_neq rfl rfl (fun hc => ?_) (fun hc => ?_)
          | refine k_len rfl rfl ?_
          | refine k_ok rfl rfl ?_))
      exact ⟨.inr rfl, rfl⟩
    · have k1 := fun h X O hg => few12 h X O g hg
      rw [decide_eq_true hf] at k1
      have k2 := fun h X O hg => valid13 (HK := HK1) rfl rfl h X O g hg
      rw [decide_eq_false hv] at k2
      repeat' (first
        | refine w_seq ?_
        | refine w_seqN ?_
        | refine w_seqX ?_
        | refine w_seqR ?_
        | refine w_blk ?_
        | refine w_blkN ?_
        | refine w_blkX ?_
        | refine w_blkR ?_
        | refine w_skip ?_
        | refine w_ret ?_
        | refine w_exit ?_
        | refine w_ops ?_
        | refine w_opsD ?_
        | refine d_one ?_
        | refine d_nil ?_
        | ((refine i_cond ?_); first | refine w_condT rfl ?_ | refine w_condF rfl ?_)
        | ((refine i_nil ?_); first | refine d_same ?_ | refine d_ord ?_ | refine d_ext ⟨_, rfl⟩ ?_ | refine d_ext (extA _ _ _) ?_ | refine d_ext (by assumption) ?_ | refine w_end0 ?_ | refine w_end1 rfl ?_ | refine w_end2 rfl rfl ?_ | refine w_end3 rfl rfl rfl ?_ | refine w_end4 rfl rfl rfl rfl ?_ | refine w_end5 rfl rfl rfl rfl rfl ?_ | refine w_end6 rfl rfl rfl rfl rfl rfl ?_ | refine w_end7 rfl rfl rfl rfl rfl rfl rfl ?_ | refine w_end8 rfl rfl rfl rfl rfl rfl rfl rfl ?_ | refine w_end9 rfl rfl rfl rfl rfl rfl rfl rfl rfl ?_ | refine w_end10 rfl rfl rfl rfl rfl rfl rfl rfl rfl rfl ?_ | refine w_end11 rfl rfl rfl rfl rfl rfl rfl rfl rfl rfl rfl ?_ | refine w_end12 rfl rfl rfl rfl rfl rfl rfl rfl rfl rfl rfl rfl ?_ | refine w_end13 rfl rfl rfl rfl rfl rfl rfl rfl rfl rfl rfl rfl rfl ?_ | refine w_end14 rfl rfl rfl rfl rfl rfl rfl rfl rfl rfl rfl rfl rfl rfl ?_ | refine w_end15 rfl rfl rfl rfl rfl rfl rfl rfl rfl rfl rfl rfl rfl rfl rfl ?_ | refine w_end16 rfl rfl rfl rfl rfl rfl rfl rfl rfl rfl rfl rfl rfl rfl rfl rfl ?_)
        | ((refine i_cons ?_); first
          | (refine k_boxC rfl ?_; intro hh ee cc; have s := (s.ext ee).addC cc)
          | (refine k_call rfl (awake_call _) ?_; rintro v hh ⟨rfl, rfl⟩)
          | refine k_ldC rfl (s.c 0 rfl) ?_
          | refine k_ldC rfl (s.c 1 rfl) ?_
          | refine k_ldC rfl (s.c 2 rfl) ?_
          | refine k_ldC rfl (s.c 3 rfl) ?_
          | refine k_ldC rfl (s.c 4 rfl) ?_
          | refine k_ldC0 rfl (s.c 0 rfl) ?_
          | refine k_ldC1 rfl (s.c 0 rfl) ?_
          | refine k_ldC0 rfl (s.c 1 rfl) ?_
          | refine k_ldC1 rfl (s.c 1 rfl) ?_
          | refine k_ldC0 rfl (s.c 2 rfl) ?_
          | refine k_ldC1 rfl (s.c 2 rfl) ?_
          | refine k_ldC0 rfl (s.c 3 rfl) ?_
          | refine k_ldC1 rfl (s.c 3 rfl) ?_
          | refine k_ldC0 rfl (s.c 4 rfl) ?_
          | refine k_ldC1 rfl (s.c 4 rfl) ?_
          | (refine k_call rfl (k1 _ _ _ (s.g 0 rfl)) ?_; rintro v hh ⟨ee, rfl⟩; have s := s.ext ee)
          | (refine k_call rfl (k2 _ _ _ (s.g 0 rfl)) ?_; rintro v hh ⟨ee, rfl⟩; have s := s.ext ee)
          | refine k_skip rfl ?_
          | refine k_want rfl ?_
          | refine k_mv rfl ?_
          | refine k_pickT rfl rfl ?_
          | refine k_pickF rfl rfl ?_
          | refine k_notT rfl ?_
          | refine k_notF rfl ?_
          | refine k_add rfl rfl (by omega) ?_
          | refine k_sub rfl rfl (by omega) ?_
          | refine k_mul rfl rfl (by omega) ?_
          | refine k_neg rfl (by omega) ?_
          | refine k_quo rfl rfl (by omega) ?_
          | refine k_rem rfl rfl (by omega) ?_
          | refine k_conv rfl (by omega) ?_
          | refine k_max rfl rfl ?_
          | refine k_min rfl rfl ?_
          | refine k_lssT rfl rfl (by omega) ?_
          | refine k_lssF rfl rfl (by omega) ?_
          | refine k_lss rfl rfl (fun hc => ?_) (fun hc => ?_)
          | refine k_leqT rfl rfl (by omega) ?_
          | refine k_leqF rfl rfl (by omega) ?_
          | refine k_leq rfl rfl (fun hc => ?_) (fun hc => ?_)
          | refine k_gtrT rfl rfl (by omega) ?_
          | refine k_gtrF rfl rfl (by omega) ?_
          | refine k_gtr rfl rfl (fun hc => ?_) (fun hc => ?_)
          | refine k_geqT rfl rfl (by omega) ?_
          | refine k_geqF rfl rfl (by omega) ?_
          | refine k_geq rfl rfl (fun hc => ?_) (fun hc => ?_)
          | refine k_eqlT rfl rfl (by omega) ?_
          | refine k_eqlF rfl rfl (by omega) ?_
          | refine k_eql rfl rfl (fun hc => ?_) (fun hc => ?_)
          | refine k_neqT rfl rfl (by omega) ?_
          | refine k_neqF rfl rfl (by omega) ?_
          | refine k_neq rfl rfl (fun hc => ?_) (fun hc => ?_)
          | refine k_len rfl rfl ?_
          | refine k_ok rfl rfl ?_))
      exact ⟨.inr rfl, rfl⟩
  · have k1 := fun h X O hg => few12 h X O g hg
    rw [decide_eq_false hf] at k1
    repeat' (first
      | refine w_seq ?_
      | refine w_seqN ?_
      | refine w_seqX ?_
      | refine w_seqR ?_
      | refine w_blk ?_
      | refine w_blkN ?_
      | refine w_blkX ?_
      | refine w_blkR ?_
      | refine w_skip ?_
      | refine w_ret ?_
      | refine w_exit ?_
      | refine w_ops ?_
      | refine w_opsD ?_
      | refine d_one ?_
      | refine d_nil ?_
      | ((refine i_cond ?_); first | refine w_condT rfl ?_ | refine w_condF rfl ?_)
      | ((refine i_nil ?_); first | refine d_same ?_ | refine d_ord ?_ | refine d_ext ⟨_, rfl⟩ ?_ | refine d_ext (extA _ _ _) ?_ | refine d_ext (by assumption) ?_ | refine w_end0 ?_ | refine w_end1 rfl ?_ | refine w_end2 rfl rfl ?_ | refine w_end3 rfl rfl rfl ?_ | refine w_end4 rfl rfl rfl rfl ?_ | refine w_end5 rfl rfl rfl rfl rfl ?_ | refine w_end6 rfl rfl rfl rfl rfl rfl ?_ | refine w_end7 rfl rfl rfl rfl rfl rfl rfl ?_ | refine w_end8 rfl rfl rfl rfl rfl rfl rfl rfl ?_ | refine w_end9 rfl rfl rfl rfl rfl rfl rfl rfl rfl ?_ | refine w_end10 rfl rfl rfl rfl rfl rfl rfl rfl rfl rfl ?_ | refine w_end11 rfl rfl rfl rfl rfl rfl rfl rfl rfl rfl rfl ?_ | refine w_end12 rfl rfl rfl rfl rfl rfl rfl rfl rfl rfl rfl rfl ?_ | refine w_end13 rfl rfl rfl rfl rfl rfl rfl rfl rfl rfl rfl rfl rfl ?_ | refine w_end14 rfl rfl rfl rfl rfl rfl rfl rfl rfl rfl rfl rfl rfl rfl ?_ | refine w_end15 rfl rfl rfl rfl rfl rfl rfl rfl rfl rfl rfl rfl rfl rfl rfl ?_ | refine w_end16 rfl rfl rfl rfl rfl rfl rfl rfl rfl rfl rfl rfl rfl rfl rfl rfl ?_)
      | ((refine i_cons ?_); first
        | (refine k_boxC rfl ?_; intro hh ee cc; have s := (s.ext ee).addC cc)
        | (refine k_call rfl (awake_call _) ?_; rintro v hh ⟨rfl, rfl⟩)
        | refine k_ldC rfl (s.c 0 rfl) ?_
        | refine k_ldC rfl (s.c 1 rfl) ?_
        | refine k_ldC rfl (s.c 2 rfl) ?_
        | refine k_ldC rfl (s.c 3 rfl) ?_
        | refine k_ldC rfl (s.c 4 rfl) ?_
        | refine k_ldC0 rfl (s.c 0 rfl) ?_
        | refine k_ldC1 rfl (s.c 0 rfl) ?_
        | refine k_ldC0 rfl (s.c 1 rfl) ?_
        | refine k_ldC1 rfl (s.c 1 rfl) ?_
        | refine k_ldC0 rfl (s.c 2 rfl) ?_
        | refine k_ldC1 rfl (s.c 2 rfl) ?_
        | refine k_ldC0 rfl (s.c 3 rfl) ?_
        | refine k_ldC1 rfl (s.c 3 rfl) ?_
        | refine k_ldC0 rfl (s.c 4 rfl) ?_
        | refine k_ldC1 rfl (s.c 4 rfl) ?_
        | (refine k_call rfl (k1 _ _ _ (s.g 0 rfl)) ?_; rintro v hh ⟨ee, rfl⟩; have s := s.ext ee)
        | refine k_skip rfl ?_
        | refine k_want rfl ?_
        | refine k_mv rfl ?_
        | refine k_pickT rfl rfl ?_
        | refine k_pickF rfl rfl ?_
        | refine k_notT rfl ?_
        | refine k_notF rfl ?_
        | refine k_add rfl rfl (by omega) ?_
        | refine k_sub rfl rfl (by omega) ?_
        | refine k_mul rfl rfl (by omega) ?_
        | refine k_neg rfl (by omega) ?_
        | refine k_quo rfl rfl (by omega) ?_
        | refine k_rem rfl rfl (by omega) ?_
        | refine k_conv rfl (by omega) ?_
        | refine k_max rfl rfl ?_
        | refine k_min rfl rfl ?_
        | refine k_lssT rfl rfl (by omega) ?_
        | refine k_lssF rfl rfl (by omega) ?_
        | refine k_lss rfl rfl (fun hc => ?_) (fun hc => ?_)
        | refine k_leqT rfl rfl (by omega) ?_
        | refine k_leqF rfl rfl (by omega) ?_
        | refine k_leq rfl rfl (fun hc => ?_) (fun hc => ?_)
        | refine k_gtrT rfl rfl (by omega) ?_
        | refine k_gtrF rfl rfl (by omega) ?_
        | refine k_gtr rfl rfl (fun hc => ?_) (fun hc => ?_)
        | refine k_geqT rfl rfl (by omega) ?_
        | refine k_geqF rfl rfl (by omega) ?_
        | refine k_geq rfl rfl (fun hc => ?_) (fun hc => ?_)
        | refine k_eqlT rfl rfl (by omega) ?_
        | refine k_eqlF rfl rfl (by omega) ?_
        | refine k_eql rfl rfl (fun hc => ?_) (fun hc => ?_)
        | refine k_neqT rfl rfl (by omega) ?_
        | refine k_neqF rfl rfl (by omega) ?_
        | refine k_neq rfl rfl (fun hc => ?_) (fun hc => ?_)
        | refine k_len rfl rfl ?_
        | refine k_ok rfl rfl ?_))
    exact ⟨.inr rfl, rfl⟩
end Go.Proofs.YtadelcikpkhclaaDoor
