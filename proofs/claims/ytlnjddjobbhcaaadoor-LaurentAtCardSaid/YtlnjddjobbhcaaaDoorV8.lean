/- At: contracts. -/
import Derived.Test.YtlnjddjobbhcaaaDoorV7
namespace Go.Proofs.YtlnjddjobbhcaaaDoor
open Go.Ab
set_option linter.unusedVariables false
set_option linter.unusedSimpArgs false
set_option maxRecDepth 20000
set_option maxHeartbeats 4000000
attribute [local irreducible] wOps wA wSeq wBlk wRound wRoundI wOpsD wOpsS

theorem call32b (h0 : Heap) (s : SV) (x : Int) : ∃ r h', Cal FT HKt 32 [.agg [.bool true, s], .sc (.int .i64 x)] h0 r h' ∧ Ext h0 h' ∧ r = .tup [.sc (.int .i64 0), .sc (.int .i64 0), .sc (.int .i64 9)] := by
  refine Cal.of (F := a32) rfl rfl rfl ?_
  repeat' (first | refine w_seq ?_ | refine w_seqN ?_ | refine w_seqR ?_ | refine w_blk ?_ | refine w_blkR ?_ | refine w_ret ?_ | refine w_ops ?_ | ((refine i_cond ?_); refine w_condT rfl ?_) | ((refine i_nil ?_); first | refine w_end2 rfl rfl ?_ | refine w_end3 rfl rfl rfl ?_) | ((refine i_cons ?_); first | (refine k_boxC rfl ?_; intro h1 e1 c1) | refine k_ldC0 rfl c1 ?_ | refine k_mv rfl ?_ | refine k_ok rfl rfl ?_))
  exact ⟨.inr rfl, e1, rfl⟩
/-- What At answers at 1 and at -1. -/
def AtR (V m n e : Int) : Prop := (V.natAbs ≤ 1125899906842624 ∧ m = V ∧ n = 1 ∧ e = 0) ∨ (¬ V.natAbs ≤ 1125899906842624 ∧ m = 0 ∧ n = 0 ∧ e = 5)
theorem call32s (h0 : Heap) (s : SV) (x : Int) (ts : List Tm) (hs : IsD h0 s (tms ts)) (he : ∀ t ∈ ts, t.1.natAbs ≤ eM ∧ t.2.natAbs ≤ cM) (hl : ts.length ≤ 2097153) (hx : x = 1 ∨ x = -1) :
    ∃ r h', Cal FT HKt 32 [.agg [.bool false, s], .sc (.int .i64 x)] h0 r h' ∧ Ext h0 h' ∧ ∃ m n e, AtR (sv x ts) m n e ∧ r = .tup [.sc (.int .i64 m), .sc (.int .i64 n), .sc (.int .i64 e)] := by
  refine Cal.of (F := a32) rfl rfl rfl ?_
  have ls := hs.len
  rw [tms_len] at ls
  have hx0 : x ≠ 0 := by omega
  have hb1 := sv_abs x ts
  have hb2 := ca_len (ts := ts) fun t ht => (he t ht).2
  have hb3 := Nat.mul_le_mul_right cM hl
  simp only [cM] at hb2 hb3
  have k45 := fun H => call45 H (sv x ts) (by omega)
  simp only [wd_P] at k45
  rcases hx with hx | hx <;> subst hx
  · repeat' (first | refine w_seq ?_ | refine w_seqN ?_ | refine w_blk ?_ | refine w_ops ?_ | ((refine i_cond ?_); first | refine w_condT rfl ?_ | refine w_condF rfl ?_) | ((refine i_nil ?_); first | refine w_end2 rfl rfl ?_ | refine w_end3 rfl rfl rfl ?_ | refine w_end5 rfl rfl rfl rfl rfl ?_) | ((refine i_cons ?_); first | (have z := e1; refine k_newC ?_; intro h2 e2 c7; have c1_2 := c1.ext e2; have u2 : St32 h0 h2 h1.length (sv 1 (ts.take 0)) := ⟨e1.trans e2, c7⟩) | (refine k_boxC rfl ?_; intro h1 e1 c1) | refine k_ldC0 rfl c1 ?_ | refine k_fldA rfl ?_ | refine k_ldC1 rfl c1_2 ?_ | refine k_len rfl ls ?_ | refine k_skip rfl ?_ | refine k_mv rfl ?_ | refine k_pickT rfl rfl ?_ | refine k_pickF rfl rfl ?_ | refine k_eqlT rfl rfl (by omega) ?_ | refine k_eqlF rfl rfl (by omega) ?_))
    refine w_loop (I32 h0 h1.length 1 s ts) (cK [1, 7, 37, 38, 39] ts.length 39) (R32 h0 h1.length 1 ts) ⟨0, Nat.zero_le _, u2, rfl⟩ (round32 h0 h1.length 1 s ts hs he e1.len (by omega)) ?_
    rintro ex E' h3 ⟨rfl, u3, _, _, _, _, rfl⟩
    generalize sv 1 ts = V at *
    by_cases hV : V.natAbs ≤ 1125899906842624
    · have e45 : smV V = V := by unfold smV; rw [if_pos hV]
      rw [e45, decide_eq_true hV] at k45
      repeat' (first | refine w_seq ?_ | refine w_seqN ?_ | refine w_seqR ?_ | refine w_blkX ?_ | refine w_blkR ?_ | refine w_skip ?_ | refine w_ret ?_ | refine w_ops ?_ | ((refine i_cond ?_); refine w_condF rfl ?_) | ((refine i_nil ?_); first | refine w_end2 rfl rfl ?_ | refine w_end3 rfl rfl rfl ?_) | ((refine i_cons ?_); first | refine k_ldC rfl u3.c7 ?_ | (refine k_call rfl (k45 _) ?_; rintro r h4 ⟨e4, rfl⟩) | refine k_mv rfl ?_ | refine k_notT rfl ?_ | refine k_ok rfl rfl ?_))
      exact ⟨.inr rfl, u3.e.trans e4, _, _, _, .inl ⟨hV, rfl, rfl, rfl⟩, rfl⟩
    · rw [decide_eq_false hV] at k45
      repeat' (first | refine w_seq ?_ | refine w_seqN ?_ | refine w_seqR ?_ | refine w_blkX ?_ | refine w_blkR ?_ | refine w_ret ?_ | refine w_ops ?_ | ((refine i_cond ?_); refine w_condT rfl ?_) | ((refine i_nil ?_); first | refine w_end2 rfl rfl ?_ | refine w_end3 rfl rfl rfl ?_) | ((refine i_cons ?_); first | refine k_ldC rfl u3.c7 ?_ | (refine k_call rfl (k45 _) ?_; rintro r h4 ⟨e4, rfl⟩) | refine k_mv rfl ?_ | refine k_notF rfl ?_ | refine k_ok rfl rfl ?_))
      exact ⟨.inr rfl, u3.e.trans e4, _, _, _, .inr ⟨hV, rfl, rfl, rfl⟩, rfl⟩
  · repeat' (first | refine w_seq ?_ | refine w_seqN ?_ | refine w_blk ?_ | refine w_ops ?_ | ((refine i_cond ?_); first | refine w_condT rfl ?_ | refine w_condF rfl ?_) | ((refine i_nil ?_); first | refine w_end2 rfl rfl ?_ | refine w_end3 rfl rfl rfl ?_ | refine w_end5 rfl rfl rfl rfl rfl ?_) | ((refine i_cons ?_); first | (have z := e1; refine k_newC ?_; intro h2 e2 c7; have c1_2 := c1.ext e2; have u2 : St32 h0 h2 h1.length (sv (-1) (ts.take 0)) := ⟨e1.trans e2, c7⟩) | (refine k_boxC rfl ?_; intro h1 e1 c1) | refine k_ldC0 rfl c1 ?_ | refine k_fldA rfl ?_ | refine k_ldC1 rfl c1_2 ?_ | refine k_len rfl ls ?_ | refine k_skip rfl ?_ | refine k_want rfl ?_ | refine k_mv rfl ?_ | refine k_pickF rfl rfl ?_ | refine k_eqlT rfl rfl (by omega) ?_ | refine k_eqlF rfl rfl (by omega) ?_))
    refine w_loop (I32 h0 h1.length (-1) s ts) (cK [1, 7, 37, 38, 39] ts.length 39) (R32 h0 h1.length (-1) ts) ⟨0, Nat.zero_le _, u2, rfl⟩ (round32 h0 h1.length (-1) s ts hs he e1.len (by omega)) ?_
    rintro ex E' h3 ⟨rfl, u3, _, _, _, _, rfl⟩
    generalize sv (-1) ts = V at *
    by_cases hV : V.natAbs ≤ 1125899906842624
    · have e45 : smV V = V := by unfold smV; rw [if_pos hV]
      rw [e45, decide_eq_true hV] at k45
      repeat' (first | refine w_seq ?_ | refine w_seqN ?_ | refine w_seqR ?_ | refine w_blkX ?_ | refine w_blkR ?_ | refine w_skip ?_ | refine w_ret ?_ | refine w_ops ?_ | ((refine i_cond ?_); refine w_condF rfl ?_) | ((refine i_nil ?_); first | refine w_end2 rfl rfl ?_ | refine w_end3 rfl rfl rfl ?_) | ((refine i_cons ?_); first | refine k_ldC rfl u3.c7 ?_ | (refine k_call rfl (k45 _) ?_; rintro r h4 ⟨e4, rfl⟩) | refine k_mv rfl ?_ | refine k_notT rfl ?_ | refine k_ok rfl rfl ?_))
      exact ⟨.inr rfl, u3.e.trans e4, _, _, _, .inl ⟨hV, rfl, rfl, rfl⟩, rfl⟩
    · rw [decide_eq_false hV] at k45
      repeat' (first | refine w_seq ?_ | refine w_seqN ?_ | refine w_seqR ?_ | refine w_blkX ?_ | refine w_blkR ?_ | refine w_ret ?_ | refine w_ops ?_ | ((refine i_cond ?_); refine w_condT rfl ?_) | ((refine i_nil ?_); first | refine w_end2 rfl rfl ?_ | refine w_end3 rfl rfl rfl ?_) | ((refine i_cons ?_); first | refine k_ldC rfl u3.c7 ?_ | (refine k_call rfl (k45 _) ?_; rintro r h4 ⟨e4, rfl⟩) | refine k_mv rfl ?_ | refine k_notF rfl ?_ | refine k_ok rfl rfl ?_))
      exact ⟨.inr rfl, u3.e.trans e4, _, _, _, .inr ⟨hV, rfl, rfl, rfl⟩, rfl⟩
theorem call32f (h0 : Heap) (s : SV) (ts : List Tm) (x a0 : Int) (hs : IsD h0 s (tms ts)) (hc : Can ts) (hx : 2 ≤ x.natAbs ∧ x.natAbs ≤ 1000000) (ha0 : a0 ≤ 0) (he : ∀ t ∈ ts, a0 ≤ t.1 ∧ t.1.natAbs ≤ eM ∧ t.2.natAbs ≤ cM) (hB : pa x.natAbs a0 ts ≤ 1125899906842624) (hX : x.natAbs ^ (0 - a0).toNat ≤ 1125899906842624) (hl : ts.length ≤ 3000000) :
    ∃ r h', Cal FT HKt 32 [.agg [.bool false, s], .sc (.int .i64 x)] h0 r h' ∧ Ext h0 h' ∧ ∃ (m : Int) (d : Nat), IsFr x a0 ts m d ∧ r = .tup [.sc (.int .i64 m), .sc (.int .i64 (d : Nat)), .sc (.int .i64 0)] := by
  refine Cal.of (F := a32) rfl rfl rfl ?_
  have k64 := fun H (e : Ext h0 H) => call64 H false s ts x a0 (hs.ext e) hc ⟨by omega, hx.2⟩ ha0 he hB hX hl
  repeat' (first | refine w_seq ?_ | refine w_seqN ?_ | refine w_blk ?_ | refine w_blkN ?_ | refine w_skip ?_ | refine w_ret ?_ | refine w_ops ?_ | ((refine i_cond ?_); refine w_condF rfl ?_) | ((refine i_nil ?_); first | refine w_end2 rfl rfl ?_ | refine w_end3 rfl rfl rfl ?_) | ((refine i_cons ?_); first | (refine k_boxC rfl ?_; intro h1 e1 c1) | refine k_ldC0 rfl c1 ?_ | refine k_ldC rfl c1 ?_ | (refine k_call rfl (k64 h1 e1) ?_; rintro r h2 ⟨e2, m, d, F, rfl⟩) | refine k_skip rfl ?_ | refine k_want rfl ?_ | refine k_mv rfl ?_ | refine k_pickF rfl rfl ?_ | refine k_eqlF rfl rfl (by omega) ?_ | refine k_ok rfl rfl ?_))
  exact ⟨.inr rfl, e1.trans e2, m, d, F, rfl⟩
end Go.Proofs.YtlnjddjobbhcaaaDoor
