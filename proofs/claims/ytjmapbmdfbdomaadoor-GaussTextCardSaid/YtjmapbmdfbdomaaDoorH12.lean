/- The law GaussText, reckoned. -/
import Derived.Test.YtjmapbmdfbdomaaDoorH11
import Derived.Test.YtjmapbmdfbdomaaDoorAb39
namespace Go.Proofs.YtjmapbmdfbdomaaDoor
open Go.Ab
set_option linter.unusedVariables false
set_option linter.unusedSimpArgs false
set_option maxRecDepth 20000
attribute [local irreducible] wOps wA wSeq wBlk wRound wOpsD

theorem vcs_pr : ∀ vs : List Vis, vcs vs = prC vs
  | [] => rfl
  | v :: r => by
    have := vcs_pr r
    simp only [vcs, vc, prC, this]
set_option maxHeartbeats 16000000 in
theorem textG (h0 : Heap) (X Sg : SV) (g : GC) (hw : Wide g) (hc : IsCode h0 X Sg g) : ∃ v h', Cal FT HKt 3 [.agg [X, Sg, .int .i64 g.L]] h0 v h' ∧ v = .sc (.bool true) := by
  refine Cal.of (F := a3) rfl rfl rfl ?_
  by_cases hfw : Few g
  · have hf := hfw.fits hw
    by_cases hg : VG g
    · have hsh := text_short hg hfw
      have k1 := fun h => call11 h (fmtG g) hsh
      rw [parse_fmt hg] at k1
      have hd : decide (fmtG g = fmtG g) = true := decide_eq_true rfl
      repeat' (first | refine w_seq ?_ | refine w_seqN ?_ | refine w_skip ?_ | refine w_ops ?_ | refine w_opsD ?_ | refine d_one ?_ | ((refine i_cond ?_); refine w_condF rfl ?_) | ((refine i_nil ?_); first | refine d_same ?_ | refine w_end1 rfl ?_ | refine w_end2 rfl rfl ?_ | refine w_end3 rfl rfl rfl ?_ | refine w_end4 rfl rfl rfl rfl ?_ | refine w_end5 rfl rfl rfl rfl rfl ?_) | ((refine i_cons ?_); first | (refine k_box rfl rfl ?_; intro h1 e1 l1 b1; have cc1 := hc.ext e1) | (refine k_call rfl (awake_callT _) ?_; rintro v h' ⟨rfl, rfl⟩) | refine k_ldA rfl b3 rfl ?_ | refine k_ldA rfl b2 rfl ?_ | refine k_ldA rfl b1 rfl ?_ | (refine k_call rfl (fewT _ X Sg g hw cc1 hfw) ?_; rintro v h2 ⟨e2, rfl⟩; have b2 := b1.ext e2; have cc2 := cc1.ext e2) | (refine k_call rfl (call8 _ X Sg g hf cc2 hg) ?_; rintro v h3 ⟨e3, rfl⟩; have b3 := b2.ext e3; have cc3 := cc2.ext e3) | (refine k_call rfl (call10 _ X Sg g hf cc3) ?_; rintro v h4 ⟨e4, Y, rfl, cy⟩; have b4 := b3.ext e4; have cc4 := cc3.ext e4) | (refine k_call rfl (rvalT _ Y Sg g hf cy hg) ?_; rintro v h5 ⟨e5, rfl⟩; have b5 := b4.ext e5; have cc5 := cc4.ext e5) | (refine k_call rfl (k1 _) ?_; rintro v h6 ⟨e6, X', Sg', rfl, cp, hfp⟩; have b6 := b5.ext e6; have cc6 := cc5.ext e6) | (refine k_new3 ?_; intro h7 e7 l7 c7) | (refine k_st3e rfl rfl c7 e7 (Nat.le_refl _) ?_; intro h8 e8 c8; have b8 := b6.ext e8; have cc8 := cc6.ext e8; have cp8 := cp.ext e8; have b0 := b8.ext (Ext.refl _)) | refine k_want rfl ?_ | refine k_mv rfl ?_ | refine k_pickF rfl rfl ?_ | refine k_notT rfl ?_ | refine k_eqlT rfl rfl (by omega) ?_ | refine k_ok rfl rfl ?_))
      repeat' (first | refine w_seqN ?_ | refine w_ret ?_ | refine d_one ?_ | refine d_nil ?_ | ((refine i_nil ?_); first | refine d_same ?_ | refine d_ord ?_ | refine d_ext (by assumption) ?_ | refine w_end1 rfl ?_) | ((refine i_cons ?_); first | refine k_ldA rfl b11 rfl ?_ | refine k_ldA rfl b8 rfl ?_ | (refine k_call rfl (call10 _ X Sg g hf cc11) ?_; rintro v h12 ⟨e12, W, rfl, cw⟩; have cz12 := cz.ext e12) | (refine k_call rfl (call10 _ X' Sg' g hfp cp10) ?_; rintro v h11 ⟨e11, Z, rfl, cz⟩; have b11 := b10.ext e11; have cc11 := cc10.ext e11) | (refine k_call rfl (call10 _ X Sg g hf cc8) ?_; rintro v h9 ⟨e9, Y2, rfl, cy2⟩; have b9 := b8.ext e9; have c9 := c8.ext e9; have cc9 := cc8.ext e9; have cp9 := cp8.ext e9) | (refine k_call rfl (call12 _ Y2 Sg g cy2 hg) ?_; rintro v h10 ⟨e10, rfl⟩; have b10 := b9.ext e10; have c10 := c9.ext e10; have cc10 := cc9.ext e10; have cp10 := cp9.ext e10) | refine k_seql rfl rfl hd ?_ | refine k_ld3 rfl c10 ?_ | (refine k_call rfl (call13 _ Z Sg' W Sg g hf cz12 cw) ?_; rintro v h13 ⟨e13, rfl⟩) | refine k_want rfl ?_ | refine k_mv rfl ?_ | refine k_pickT rfl rfl ?_ | refine k_eqlT rfl rfl (by omega) ?_))
      exact ⟨.inr rfl, rfl⟩
    · repeat' (first | refine w_seq ?_ | refine w_seqN ?_ | refine w_seqR ?_ | refine w_skip ?_ | refine w_ret ?_ | refine w_ops ?_ | ((refine i_cond ?_); first | refine w_condT rfl ?_ | refine w_condF rfl ?_) | ((refine i_nil ?_); first | refine w_end1 rfl ?_ | refine w_end2 rfl rfl ?_ | refine w_end3 rfl rfl rfl ?_ | refine w_end4 rfl rfl rfl rfl ?_) | ((refine i_cons ?_); first | (refine k_box rfl rfl ?_; intro h1 e1 l1 b1; have cc1 := hc.ext e1) | (refine k_call rfl (awake_callT _) ?_; rintro v h' ⟨rfl, rfl⟩) | refine k_ldA rfl b3 rfl ?_ | refine k_ldA rfl b2 rfl ?_ | refine k_ldA rfl b1 rfl ?_ | (refine k_call rfl (fewT _ X Sg g hw cc1 hfw) ?_; rintro v h2 ⟨e2, rfl⟩; have b2 := b1.ext e2; have cc2 := cc1.ext e2) | (refine k_call rfl (call8e _ X Sg g hf cc2 hg) ?_; rintro v h3 ⟨e3, rfl⟩; have b3 := b2.ext e3; have cc3 := cc2.ext e3) | (refine k_call rfl (call10 _ X Sg g hf cc3) ?_; rintro v h4 ⟨e4, Y, rfl, cy⟩) | (refine k_call rfl (rvalF _ Y Sg g hf cy hg) ?_; rintro v h5 ⟨e5, rfl⟩) | refine k_seql (a := []) (b := []) rfl rfl rfl ?_ | refine k_want rfl ?_ | refine k_mv rfl ?_ | refine k_pickT rfl rfl ?_ | refine k_pickF rfl rfl ?_ | refine k_notT rfl ?_ | refine k_notF rfl ?_ | refine k_eqlT rfl rfl (by omega) ?_ | refine k_ok rfl rfl ?_))
      exact ⟨.inr rfl, rfl⟩
  · repeat' (first | refine w_seq ?_ | refine w_seqN ?_ | refine w_seqR ?_ | refine w_ret ?_ | refine w_ops ?_ | ((refine i_cond ?_); refine w_condT rfl ?_) | ((refine i_nil ?_); first | refine w_end1 rfl ?_ | refine w_end2 rfl rfl ?_) | ((refine i_cons ?_); first | (refine k_box rfl rfl ?_; intro h1 e1 l1 b1; have cc1 := hc.ext e1) | (refine k_call rfl (awake_callT _) ?_; rintro v h' ⟨rfl, rfl⟩) | refine k_ldA rfl b1 rfl ?_ | (refine k_call rfl (fewF _ X Sg g hw cc1 hfw) ?_; rintro v h2 ⟨e2, rfl⟩) | refine k_want rfl ?_ | refine k_mv rfl ?_ | refine k_pickF rfl rfl ?_ | refine k_notT rfl ?_ | refine k_notF rfl ?_))
    exact ⟨.inr rfl, rfl⟩
end Go.Proofs.YtjmapbmdfbdomaaDoor
