/- The law DowkerValid, reckoned. -/
import Derived.Test.YtooafhbjbpaacaaPlain
import Derived.Test.YtooafhbjbpaacaaAwake
namespace Go.Proofs.Ytooafhbjbpaacaa
open Go.Ab
set_option linter.unusedVariables false
set_option maxRecDepth 20000

theorem awake_call (h : Heap) : ∃ v h', Cal FT HK1 10 [] h v h' ∧ v = .sc (.bool true) ∧ h' = h := ⟨_, _, Cal.hook (g := constHook (.sc (.bool true))) rfl rfl, rfl, rfl⟩

theorem call4 (h0 : Heap) (s : SV) (xs : List Int) (hs : IsInts h0 s xs) : ∃ v h', Cal FT HK1 4 [.sc s] h0 v h' ∧ v = .sc (.bool true) := by
  refine Cal.of (F := a4) rfl rfl rfl ?_
  refine w_seq (w_ops ?_)
  refine op_ok rfl rfl rfl ?_
  refine w_end (keep_c rfl (keep_nil _)) (w_seqN (w_seq (w_seq (w_ops ?_))))
  refine op_call rfl rfl (awake_call _) ?_
  rintro v h' ⟨rfl, rfl⟩
  refine op_ok rfl rfl rfl ?_
  refine w_end (keep_c rfl (keep_c rfl (keep_nil _))) (w_seqN (w_condF rfl (w_skip (w_seqN (w_seq (w_seq (w_ops ?_)))))))
  refine op_ok rfl rfl rfl ?_
  refine op_len rfl rfl (IsSl.len hs) ?_
  refine op_test rfl rfl rfl (fun c1 => ?_) (fun c1 => ?_)
  ·
    refine w_end (keep_c rfl (keep_c rfl (keep_nil _))) (w_seqN (w_condT rfl (w_seq (w_ops ?_))))
    refine op_ok rfl rfl rfl ?_
    refine w_end (keep_c rfl (keep_nil _)) (w_seqN (w_ret ?_))
    exact ⟨.inr rfl, rfl⟩
  ·
    refine w_end (keep_c rfl (keep_c rfl (keep_nil _))) (w_seqN (w_condF rfl (w_skip (w_seqN (w_seq (w_ops ?_))))))
    refine op_ok rfl rfl rfl ?_
    refine op_call rfl rfl (call16 rfl _ _ xs hs) ?_
    rintro v h1 ⟨⟨t, rfl⟩, b, rfl, hb⟩
    refine op_ok rfl rfl rfl ?_
    refine op_call rfl rfl (call17 rfl _ _ xs (IsSl.mono hs mono_app)) ?_
    rintro v h2 ⟨-, b2, rfl, hb2⟩
    have hbb : b = b2 := by
      rw [Bool.eq_iff_iff, hb, hb2, good_iff]
    subst hbb
    refine op_test_t rfl rfl rfl (by simp) ?_
    refine op_ok rfl rfl rfl ?_
    refine w_end (keep_c rfl (keep_nil _)) (w_seqN (w_ret ?_))
    exact ⟨.inr rfl, rfl⟩

end Go.Proofs.Ytooafhbjbpaacaa
