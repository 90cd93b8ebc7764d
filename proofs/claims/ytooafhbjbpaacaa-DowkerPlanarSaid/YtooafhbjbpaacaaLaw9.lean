/- The law DowkerPlanar, reckoned. -/
import Derived.Test.YtooafhbjbpaacaaLaw5
import Derived.Test.YtooafhbjbpaacaaD7
namespace Go.Proofs.Ytooafhbjbpaacaa
open Go.Ab
set_option linter.unusedVariables false
set_option linter.unusedSimpArgs false
set_option maxRecDepth 20000
set_option maxHeartbeats 4000000
attribute [local irreducible] wOps wA wSeq wBlk wRound wRoundI wOpsD wOpsS

theorem dgE {vs : List Int} (hn : ¬ (Good vs ∧ vs.length ≤ 14 ∧ ¬ ∀ q ∈ cands [] vs.length, ¬ Pd vs q)) {h0 : Heap} {v : AV} {h' : Heap} (q : DgR vs h0 v h') : ∃ e : Int, e ≠ 0 ∧ v = .tup [.agg [.nilS, .nilS, .int .i64 0], .sc (.int .i64 e)] ∧ Ext h0 h' := by
  obtain ⟨e, ⟨x, y⟩ | ⟨x, _, y⟩ | ⟨x, _, _, y⟩ | ⟨x, x2, t, m, L, x3, x4⟩⟩ := q
  · exact ⟨3, by omega, y, e⟩
  · exact ⟨5, by omega, y, e⟩
  · exact ⟨7, by omega, y, e⟩
  · refine absurd ⟨x, x2, fun h => ?_⟩ hn
    obtain ⟨y1, y2⟩ := x3.mem
    exact h L y1 y2
theorem call9 (h0 : Heap) (s : SV) (vs : List Int) (hs : IsInts h0 s vs) : ∃ v h', Cal FT HK1 9 [.sc s] h0 v h' ∧ v = .sc (.bool true) := by
  refine Cal.of (F := a9) rfl rfl rfl ?_
  have lo := IsSl.len hs
  have aw := awake_call h0
  by_cases h12 : vs.length ≤ 12
  · have k19 := call19 (HK := HK1) rfl rfl rfl rfl rfl rfl rfl rfl rfl rfl rfl h0 s vs hs
    by_cases hd : Good vs ∧ vs.length ≤ 14 ∧ ¬ ∀ q ∈ cands [] vs.length, ¬ Pd vs q
    · obtain ⟨hg, h14, hn⟩ := hd
      repeat' (first | refine w_seq ?_ | refine w_seqN ?_ | refine w_skip ?_ | refine w_ops ?_ | ((refine i_cond ?_); refine w_condF rfl ?_) | ((refine i_nil ?_); first | refine w_end1 rfl ?_ | refine w_end2 rfl rfl ?_ | refine w_end3 rfl rfl rfl ?_) | ((refine i_cons ?_); first | (refine k_call rfl aw ?_; rintro v _ ⟨rfl, rfl⟩) | refine k_len rfl lo ?_ | (refine k_call rfl k19 ?_; intro v h1 q; obtain ⟨t, m, L, hF, ⟨r, rfl⟩, rfl, it, im, e1⟩ := dgY hg h14 hn q) | (refine k_newst3 rfl ?_; intro h2 e2 b2) | refine k_mv rfl ?_ | refine k_notT rfl ?_ | refine k_gtrF rfl rfl (by omega) ?_ | refine k_neqF rfl rfl (by omega) ?_ | refine k_ok rfl rfl ?_))
      have hV : PV (1 :: r) (mtD vs (1 :: r)) 0 := hF.mem.2
      have hLn := first_ln hF
      obtain ⟨k, hk, hst⟩ := strs_one hg hLn hV.1
      have st := str_of (xs := 1 :: r) hg hk
      have k11 := call11 (HK := HK1) rfl rfl rfl rfl rfl rfl rfl rfl rfl rfl rfl rfl h2 t m _ _ (IsSl.ext it e2) (IsSl.ext im e2) hV hg.1 hg.2.1 hLn st hst
      have k26 := fun H (e : Ext h2 H) => call26 (HK := HK1) rfl rfl rfl rfl rfl H t m 0 _ _ (IsSl.ext it (e2.trans e)) (IsSl.ext im (e2.trans e))
      have k27 := fun H (e : Ext h2 H) => call27 (HK := HK1) rfl rfl rfl rfl rfl rfl rfl rfl rfl rfl rfl rfl H t m _ _ (IsSl.ext it (e2.trans e)) (IsSl.ext im (e2.trans e)) hV hst
      have gc := cdD_good hg.1 hg.2.1 st
      have hcl := cdD_len vs.length (fun j => oN vs (1 :: r) ((k + j) % (2 * vs.length))) (2 * vs.length)
      generalize cdD vs.length (fun j => oN vs (1 :: r) ((k + j) % (2 * vs.length))) (2 * vs.length) = C at *
      obtain ⟨id, off, cap, et, hr⟩ := IsInts.at it (i := 0) (x := 1) rfl
      have lt := IsSl.len it
      rw [hLn] at lt
      have lo2 := lo
      subst et
      repeat' (first | refine w_seq ?_ | refine w_seqN ?_ | refine w_ret ?_ | refine w_ops ?_ | ((refine i_nil ?_); first | refine w_end1 rfl ?_ | refine w_end4 rfl rfl rfl rfl ?_) | ((refine i_cons ?_); first | refine k_ldA rfl b2 rfl ?_ | (refine k_call rfl k11 ?_; rintro v h3 ⟨e3, c, rfl, ic⟩; have b3 := b2.ext e3; have lc := IsSl.len ic; have hr3 := readN_extD (e2.trans e3) hr) | refine k_ldA rfl b3 rfl ?_ | (refine k_call rfl (k26 h3 e3) ?_; rintro v h4 ⟨e4, bb, rfl, hq⟩; obtain rfl := hq.2 hV; have b4 := b3.ext e4) | refine k_ldA rfl b4 rfl ?_ | refine k_fldA rfl ?_ | refine k_ldb rfl b4 rfl ?_ | refine k_len rfl lt ?_ | refine k_len rfl lo ?_ | (refine k_call rfl (k27 h4 (e3.trans e4)) ?_; rintro v h5 ⟨rfl, e5⟩; have b5 := b4.ext e5; have hr5 := readN_extD (e4.trans e5) hr3) | refine k_ldb rfl b5 rfl ?_ | refine k_idxA (esz := 1) rfl rfl (by omega) ?_ | refine k_ld rfl hr5 ?_ | refine k_len rfl lc ?_ | (refine k_call rfl (call16 (HK := HK1) rfl h5 c C (IsSl.ext ic (e4.trans e5))) ?_; rintro v h6 ⟨e6, b6, rfl, hq6⟩; obtain rfl := hq6.2 gc) | refine k_want rfl ?_ | refine k_mv rfl ?_ | refine k_pickT rfl rfl ?_ | refine k_eqlT rfl rfl (by omega) ?_ | refine k_ok rfl rfl ?_))
      exact ⟨.inr rfl, rfl⟩
    · repeat' (first | refine w_seq ?_ | refine w_seqN ?_ | refine w_seqR ?_ | refine w_skip ?_ | refine w_ret ?_ | refine w_ops ?_ | ((refine i_cond ?_); first | refine w_condT rfl ?_ | refine w_condF rfl ?_) | ((refine i_nil ?_); first | refine w_end1 rfl ?_ | refine w_end2 rfl rfl ?_ | refine w_end3 rfl rfl rfl ?_) | ((refine i_cons ?_); first | (refine k_call rfl aw ?_; rintro v _ ⟨rfl, rfl⟩) | refine k_len rfl lo ?_ | (refine k_call rfl k19 ?_; intro v h1 q; obtain ⟨ee, hee, rfl, e1⟩ := dgE hd q) | (refine k_newst3 rfl ?_; intro h2 e2 b2) | refine k_mv rfl ?_ | refine k_notT rfl ?_ | refine k_gtrF rfl rfl (by omega) ?_ | refine k_neqT rfl rfl (by omega) ?_ | refine k_ok rfl rfl ?_))
      exact ⟨.inr rfl, rfl⟩
  · repeat' (first | refine w_seq ?_ | refine w_seqN ?_ | refine w_seqR ?_ | refine w_skip ?_ | refine w_ret ?_ | refine w_ops ?_ | ((refine i_cond ?_); first | refine w_condT rfl ?_ | refine w_condF rfl ?_) | ((refine i_nil ?_); first | refine w_end1 rfl ?_ | refine w_end2 rfl rfl ?_) | ((refine i_cons ?_); first | (refine k_call rfl aw ?_; rintro v _ ⟨rfl, rfl⟩) | refine k_len rfl lo ?_ | refine k_mv rfl ?_ | refine k_notT rfl ?_ | refine k_gtrT rfl rfl (by omega) ?_))
    exact ⟨.inr rfl, rfl⟩
end Go.Proofs.Ytooafhbjbpaacaa
