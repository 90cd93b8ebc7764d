/- Sub, Neg: contracts; the ring's laws, plain. -/
import Derived.Test.YtlnjddjobbhcaaaDoorCG2
namespace Go.Proofs.YtlnjddjobbhcaaaDoor
open Go.Ab
set_option linter.unusedVariables false
set_option linter.unusedSimpArgs false
set_option maxRecDepth 20000
set_option maxHeartbeats 8000000
attribute [local irreducible] wOps wA wSeq wBlk wRound wRoundI wOpsD wOpsS

def wSub (a b : Int) : Int := a - b
def wNeg (_ b : Int) : Int := -b
theorem wop55 : Wop 55 wSub := fun h0 a b ha hb => by
  simp only [cM] at ha hb
  refine ⟨?_, by unfold wSub; omega⟩
  refine Cal.of (F := a55) rfl rfl rfl ?_
  repeat' (first | refine w_seq ?_ | refine w_seqN ?_ | refine w_seqX ?_ | refine w_seqR ?_ | refine w_blk ?_ | refine w_blkN ?_ | refine w_blkX ?_ | refine w_blkR ?_ | refine w_skip ?_ | refine w_ret ?_ | refine w_exit ?_ | refine w_ops ?_ | refine w_opsD ?_ | refine d_one ?_ | refine d_nil ?_ | (refine w_blkY ?_ ?_; rfl) | ((refine i_cond ?_); first | refine w_condT rfl ?_ | refine w_condF rfl ?_) | ((refine i_nil ?_); first | refine d_same ?_ | refine d_ord ?_ | refine d_ext ⟨_, rfl⟩ ?_ | refine d_ext (extA _ _ _) ?_ | refine d_ext (by assumption) ?_ | refine w_end0 ?_ | refine w_end1 rfl ?_ | refine w_end2 rfl rfl ?_ | refine w_end3 rfl rfl rfl ?_ | refine w_end4 rfl rfl rfl rfl ?_ | refine w_end5 rfl rfl rfl rfl rfl ?_ | refine w_end6 rfl rfl rfl rfl rfl rfl ?_ | refine w_end7 rfl rfl rfl rfl rfl rfl rfl ?_ | refine w_end8 rfl rfl rfl rfl rfl rfl rfl rfl ?_ | refine w_end9 rfl rfl rfl rfl rfl rfl rfl rfl rfl ?_ | refine w_end10 rfl rfl rfl rfl rfl rfl rfl rfl rfl rfl ?_ | refine w_end11 rfl rfl rfl rfl rfl rfl rfl rfl rfl rfl rfl ?_ | refine w_end12 rfl rfl rfl rfl rfl rfl rfl rfl rfl rfl rfl rfl ?_ | refine w_end13 rfl rfl rfl rfl rfl rfl rfl rfl rfl rfl rfl rfl rfl ?_ | refine w_end14 rfl rfl rfl rfl rfl rfl rfl rfl rfl rfl rfl rfl rfl rfl ?_ | refine w_end15 rfl rfl rfl rfl rfl rfl rfl rfl rfl rfl rfl rfl rfl rfl rfl ?_ | refine w_end16 rfl rfl rfl rfl rfl rfl rfl rfl rfl rfl rfl rfl rfl rfl rfl rfl ?_) | ((refine i_cons ?_); first | refine k_skip rfl ?_ | refine k_skipU rfl ?_ | refine k_want rfl ?_ | refine k_mv rfl ?_ | refine k_pickT rfl rfl ?_ | refine k_pickF rfl rfl ?_ | refine k_notT rfl ?_ | refine k_notF rfl ?_ | refine k_add rfl rfl (by omega) ?_ | refine k_sub rfl rfl (by omega) ?_ | refine k_mul rfl rfl (by omega) ?_ | refine k_neg rfl (by omega) ?_ | refine k_quo rfl rfl (by omega) ?_ | refine k_rem rfl rfl (by omega) ?_ | refine k_conv rfl (by omega) ?_ | refine k_max rfl rfl ?_ | refine k_min rfl rfl ?_ | refine k_lssT rfl rfl (by omega) ?_ | refine k_lssF rfl rfl (by omega) ?_ | refine k_lss rfl rfl (fun hc => ?_) (fun hc => ?_) | refine k_leqT rfl rfl (by omega) ?_ | refine k_leqF rfl rfl (by omega) ?_ | refine k_leq rfl rfl (fun hc => ?_) (fun hc => ?_) | refine k_gtrT rfl rfl (by omega) ?_ | refine k_gtrF rfl rfl (by omega) ?_ | refine k_gtr rfl rfl (fun hc => ?_) (fun hc => ?_) | refine k_geqT rfl rfl (by omega) ?_ | refine k_geqF rfl rfl (by omega) ?_ | refine k_geq rfl rfl (fun hc => ?_) (fun hc => ?_) | refine k_eqlT rfl rfl (by omega) ?_ | refine k_eqlF rfl rfl (by omega) ?_ | refine k_eql rfl rfl (fun hc => ?_) (fun hc => ?_) | refine k_neqT rfl rfl (by omega) ?_ | refine k_neqF rfl rfl (by omega) ?_ | refine k_neq rfl rfl (fun hc => ?_) (fun hc => ?_) | refine k_len rfl rfl ?_ | refine k_ok rfl rfl ?_))
  exact ⟨.inr rfl, rfl, rfl⟩
theorem wop56 : Wop 56 wNeg := fun h0 a b ha hb => by
  simp only [cM] at ha hb
  refine ⟨?_, by unfold wNeg; omega⟩
  refine Cal.of (F := a56) rfl rfl rfl ?_
  repeat' (first | refine w_seq ?_ | refine w_seqN ?_ | refine w_seqX ?_ | refine w_seqR ?_ | refine w_blk ?_ | refine w_blkN ?_ | refine w_blkX ?_ | refine w_blkR ?_ | refine w_skip ?_ | refine w_ret ?_ | refine w_exit ?_ | refine w_ops ?_ | refine w_opsD ?_ | refine d_one ?_ | refine d_nil ?_ | (refine w_blkY ?_ ?_; rfl) | ((refine i_cond ?_); first | refine w_condT rfl ?_ | refine w_condF rfl ?_) | ((refine i_nil ?_); first | refine d_same ?_ | refine d_ord ?_ | refine d_ext ⟨_, rfl⟩ ?_ | refine d_ext (extA _ _ _) ?_ | refine d_ext (by assumption) ?_ | refine w_end0 ?_ | refine w_end1 rfl ?_ | refine w_end2 rfl rfl ?_ | refine w_end3 rfl rfl rfl ?_ | refine w_end4 rfl rfl rfl rfl ?_ | refine w_end5 rfl rfl rfl rfl rfl ?_ | refine w_end6 rfl rfl rfl rfl rfl rfl ?_ | refine w_end7 rfl rfl rfl rfl rfl rfl rfl ?_ | refine w_end8 rfl rfl rfl rfl rfl rfl rfl rfl ?_ | refine w_end9 rfl rfl rfl rfl rfl rfl rfl rfl rfl ?_ | refine w_end10 rfl rfl rfl rfl rfl rfl rfl rfl rfl rfl ?_ | refine w_end11 rfl rfl rfl rfl rfl rfl rfl rfl rfl rfl rfl ?_ | refine w_end12 rfl rfl rfl rfl rfl rfl rfl rfl rfl rfl rfl rfl ?_ | refine w_end13 rfl rfl rfl rfl rfl rfl rfl rfl rfl rfl rfl rfl rfl ?_ | refine w_end14 rfl rfl rfl rfl rfl rfl rfl rfl rfl rfl rfl rfl rfl rfl ?_ | refine w_end15 rfl rfl rfl rfl rfl rfl rfl rfl rfl rfl rfl rfl rfl rfl rfl ?_ | refine w_end16 rfl rfl rfl rfl rfl rfl rfl rfl rfl rfl rfl rfl rfl rfl rfl rfl ?_) | ((refine i_cons ?_); first | refine k_skip rfl ?_ | refine k_skipU rfl ?_ | refine k_want rfl ?_ | refine k_mv rfl ?_ | refine k_pickT rfl rfl ?_ | refine k_pickF rfl rfl ?_ | refine k_notT rfl ?_ | refine k_notF rfl ?_ | refine k_add rfl rfl (by omega) ?_ | refine k_sub rfl rfl (by omega) ?_ | refine k_mul rfl rfl (by omega) ?_ | refine k_neg rfl (by omega) ?_ | refine k_quo rfl rfl (by omega) ?_ | refine k_rem rfl rfl (by omega) ?_ | refine k_conv rfl (by omega) ?_ | refine k_max rfl rfl ?_ | refine k_min rfl rfl ?_ | refine k_lssT rfl rfl (by omega) ?_ | refine k_lssF rfl rfl (by omega) ?_ | refine k_lss rfl rfl (fun hc => ?_) (fun hc => ?_) | refine k_leqT rfl rfl (by omega) ?_ | refine k_leqF rfl rfl (by omega) ?_ | refine k_leq rfl rfl (fun hc => ?_) (fun hc => ?_) | refine k_gtrT rfl rfl (by omega) ?_ | refine k_gtrF rfl rfl (by omega) ?_ | refine k_gtr rfl rfl (fun hc => ?_) (fun hc => ?_) | refine k_geqT rfl rfl (by omega) ?_ | refine k_geqF rfl rfl (by omega) ?_ | refine k_geq rfl rfl (fun hc => ?_) (fun hc => ?_) | refine k_eqlT rfl rfl (by omega) ?_ | refine k_eqlF rfl rfl (by omega) ?_ | refine k_eql rfl rfl (fun hc => ?_) (fun hc => ?_) | refine k_neqT rfl rfl (by omega) ?_ | refine k_neqF rfl rfl (by omega) ?_ | refine k_neq rfl rfl (fun hc => ?_) (fun hc => ?_) | refine k_len rfl rfl ?_ | refine k_ok rfl rfl ?_))
  exact ⟨.inr rfl, rfl, rfl⟩
noncomputable def subP (p q : Pol) : Pol := combP wSub p q
noncomputable def negP (q : Pol) : Pol := combP wNeg zeroP q
theorem call22 (h0 : Heap) (sp sq : SV) (p q : Pol) (hp : IsD h0 sp (tms p.ts)) (hq : IsD h0 sq (tms q.ts)) (kp : Pok p) (kq : Pok q) :
    ∃ r h', Cal FT HKt 22 [.agg [.bool p.big, sp], .agg [.bool q.big, sq]] h0 r h' ∧ Ext h0 h' ∧ IsPol h' r (subP p q) := by
  refine Cal.of (F := a22) rfl rfl rfl ?_
  have k53 := fun H (e : Ext h0 H) => call53g wop55 rfl H sp sq p q (hp.ext e) (hq.ext e) kp kq
  unfold subP
  generalize combP wSub p q = D at *
  repeat' (first | refine w_seq ?_ | refine w_seqN ?_ | refine w_seqX ?_ | refine w_seqR ?_ | refine w_blk ?_ | refine w_blkN ?_ | refine w_blkX ?_ | refine w_blkR ?_ | refine w_skip ?_ | refine w_ret ?_ | refine w_exit ?_ | refine w_ops ?_ | refine w_opsD ?_ | refine d_one ?_ | refine d_nil ?_ | (refine w_blkY ?_ ?_; rfl) | ((refine i_cond ?_); first | refine w_condT rfl ?_ | refine w_condF rfl ?_) | ((refine i_nil ?_); first | refine d_same ?_ | refine d_ord ?_ | refine d_ext ⟨_, rfl⟩ ?_ | refine d_ext (extA _ _ _) ?_ | refine d_ext (by assumption) ?_ | refine w_end0 ?_ | refine w_end1 rfl ?_ | refine w_end2 rfl rfl ?_ | refine w_end3 rfl rfl rfl ?_ | refine w_end4 rfl rfl rfl rfl ?_ | refine w_end5 rfl rfl rfl rfl rfl ?_ | refine w_end6 rfl rfl rfl rfl rfl rfl ?_ | refine w_end7 rfl rfl rfl rfl rfl rfl rfl ?_ | refine w_end8 rfl rfl rfl rfl rfl rfl rfl rfl ?_ | refine w_end9 rfl rfl rfl rfl rfl rfl rfl rfl rfl ?_ | refine w_end10 rfl rfl rfl rfl rfl rfl rfl rfl rfl rfl ?_ | refine w_end11 rfl rfl rfl rfl rfl rfl rfl rfl rfl rfl rfl ?_ | refine w_end12 rfl rfl rfl rfl rfl rfl rfl rfl rfl rfl rfl rfl ?_ | refine w_end13 rfl rfl rfl rfl rfl rfl rfl rfl rfl rfl rfl rfl rfl ?_ | refine w_end14 rfl rfl rfl rfl rfl rfl rfl rfl rfl rfl rfl rfl rfl rfl ?_ | refine w_end15 rfl rfl rfl rfl rfl rfl rfl rfl rfl rfl rfl rfl rfl rfl rfl ?_ | refine w_end16 rfl rfl rfl rfl rfl rfl rfl rfl rfl rfl rfl rfl rfl rfl rfl rfl ?_) | ((refine i_cons ?_); first | (have z := e2; refine k_newC ?_; intro h3 e3 c4; have d2 := c2.ext (e2.trans e3); have d3 := c3.ext e3; have x3 := e1.trans (e2.trans e3)) | (have z := e1; refine k_boxC rfl ?_; intro h2 e2 c3) | (refine k_boxC rfl ?_; intro h1 e1 c2) | refine k_ldC rfl d2 ?_ | refine k_ldC rfl d3 ?_ | (refine k_call rfl (k53 h3 x3) ?_; rintro r h4 ⟨e4, s, rfl, is⟩; have c4_4 := c4.ext e4) | (refine k_stC rfl rfl c4_4 ?_; intro h5 w5) | refine k_skip rfl ?_ | refine k_skipU rfl ?_ | refine k_want rfl ?_ | refine k_mv rfl ?_ | refine k_pickT rfl rfl ?_ | refine k_pickF rfl rfl ?_ | refine k_notT rfl ?_ | refine k_notF rfl ?_ | refine k_add rfl rfl (by omega) ?_ | refine k_sub rfl rfl (by omega) ?_ | refine k_mul rfl rfl (by omega) ?_ | refine k_neg rfl (by omega) ?_ | refine k_quo rfl rfl (by omega) ?_ | refine k_rem rfl rfl (by omega) ?_ | refine k_conv rfl (by omega) ?_ | refine k_max rfl rfl ?_ | refine k_min rfl rfl ?_ | refine k_lssT rfl rfl (by omega) ?_ | refine k_lssF rfl rfl (by omega) ?_ | refine k_lss rfl rfl (fun hc => ?_) (fun hc => ?_) | refine k_leqT rfl rfl (by omega) ?_ | refine k_leqF rfl rfl (by omega) ?_ | refine k_leq rfl rfl (fun hc => ?_) (fun hc => ?_) | refine k_gtrT rfl rfl (by omega) ?_ | refine k_gtrF rfl rfl (by omega) ?_ | refine k_gtr rfl rfl (fun hc => ?_) (fun hc => ?_) | refine k_geqT rfl rfl (by omega) ?_ | refine k_geqF rfl rfl (by omega) ?_ | refine k_geq rfl rfl (fun hc => ?_) (fun hc => ?_) | refine k_eqlT rfl rfl (by omega) ?_ | refine k_eqlF rfl rfl (by omega) ?_ | refine k_eql rfl rfl (fun hc => ?_) (fun hc => ?_) | refine k_neqT rfl rfl (by omega) ?_ | refine k_neqF rfl rfl (by omega) ?_ | refine k_neq rfl rfl (fun hc => ?_) (fun hc => ?_) | refine k_len rfl rfl ?_ | refine k_ok rfl rfl ?_))
  exact ⟨.inr rfl, oK_cell rfl w5.cel.read ⟨w5.ext (x3.trans e4) (Nat.le_trans e1.len e2.len), s, rfl, is.wrC w5⟩⟩
theorem call23 (h0 : Heap) (sp : SV) (p : Pol) (hp : IsD h0 sp (tms p.ts)) (kp : Pok p) :
    ∃ r h', Cal FT HKt 23 [.agg [.bool p.big, sp]] h0 r h' ∧ Ext h0 h' ∧ IsPol h' r (negP p) := by
  refine Cal.of (F := a23) rfl rfl rfl ?_
  have k53 := fun H (e : Ext h0 H) => call53g wop56 rfl H .nilS sp zeroP p (IsD.nil H) (hp.ext e) zeroP_ok kp
  unfold negP
  generalize combP wNeg zeroP p = D at *
  repeat' (first | refine w_seq ?_ | refine w_seqN ?_ | refine w_seqX ?_ | refine w_seqR ?_ | refine w_blk ?_ | refine w_blkN ?_ | refine w_blkX ?_ | refine w_blkR ?_ | refine w_skip ?_ | refine w_ret ?_ | refine w_exit ?_ | refine w_ops ?_ | refine w_opsD ?_ | refine d_one ?_ | refine d_nil ?_ | (refine w_blkY ?_ ?_; rfl) | ((refine i_cond ?_); first | refine w_condT rfl ?_ | refine w_condF rfl ?_) | ((refine i_nil ?_); first | refine d_same ?_ | refine d_ord ?_ | refine d_ext ⟨_, rfl⟩ ?_ | refine d_ext (extA _ _ _) ?_ | refine d_ext (by assumption) ?_ | refine w_end0 ?_ | refine w_end1 rfl ?_ | refine w_end2 rfl rfl ?_ | refine w_end3 rfl rfl rfl ?_ | refine w_end4 rfl rfl rfl rfl ?_ | refine w_end5 rfl rfl rfl rfl rfl ?_ | refine w_end6 rfl rfl rfl rfl rfl rfl ?_ | refine w_end7 rfl rfl rfl rfl rfl rfl rfl ?_ | refine w_end8 rfl rfl rfl rfl rfl rfl rfl rfl ?_ | refine w_end9 rfl rfl rfl rfl rfl rfl rfl rfl rfl ?_ | refine w_end10 rfl rfl rfl rfl rfl rfl rfl rfl rfl rfl ?_ | refine w_end11 rfl rfl rfl rfl rfl rfl rfl rfl rfl rfl rfl ?_ | refine w_end12 rfl rfl rfl rfl rfl rfl rfl rfl rfl rfl rfl rfl ?_ | refine w_end13 rfl rfl rfl rfl rfl rfl rfl rfl rfl rfl rfl rfl rfl ?_ | refine w_end14 rfl rfl rfl rfl rfl rfl rfl rfl rfl rfl rfl rfl rfl rfl ?_ | refine w_end15 rfl rfl rfl rfl rfl rfl rfl rfl rfl rfl rfl rfl rfl rfl rfl ?_ | refine w_end16 rfl rfl rfl rfl rfl rfl rfl rfl rfl rfl rfl rfl rfl rfl rfl rfl ?_) | ((refine i_cons ?_); first | (have z := e1; refine k_newC ?_; intro h2 e2 c2; have d1 := c1.ext e2; have x2 := e1.trans e2) | (refine k_boxC rfl ?_; intro h1 e1 c1) | refine k_ldC rfl d1 ?_ | (refine k_bld rfl rfl ?_) | (refine k_call rfl (k53 h2 x2) ?_; rintro r h3 ⟨e3, s, rfl, is⟩; have c2_3 := c2.ext e3) | (refine k_stC rfl rfl c2_3 ?_; intro h4 w4) | refine k_skip rfl ?_ | refine k_skipU rfl ?_ | refine k_want rfl ?_ | refine k_mv rfl ?_ | refine k_pickT rfl rfl ?_ | refine k_pickF rfl rfl ?_ | refine k_notT rfl ?_ | refine k_notF rfl ?_ | refine k_add rfl rfl (by omega) ?_ | refine k_sub rfl rfl (by omega) ?_ | refine k_mul rfl rfl (by omega) ?_ | refine k_neg rfl (by omega) ?_ | refine k_quo rfl rfl (by omega) ?_ | refine k_rem rfl rfl (by omega) ?_ | refine k_conv rfl (by omega) ?_ | refine k_max rfl rfl ?_ | refine k_min rfl rfl ?_ | refine k_lssT rfl rfl (by omega) ?_ | refine k_lssF rfl rfl (by omega) ?_ | refine k_lss rfl rfl (fun hc => ?_) (fun hc => ?_) | refine k_leqT rfl rfl (by omega) ?_ | refine k_leqF rfl rfl (by omega) ?_ | refine k_leq rfl rfl (fun hc => ?_) (fun hc => ?_) | refine k_gtrT rfl rfl (by omega) ?_ | refine k_gtrF rfl rfl (by omega) ?_ | refine k_gtr rfl rfl (fun hc => ?_) (fun hc => ?_) | refine k_geqT rfl rfl (by omega) ?_ | refine k_geqF rfl rfl (by omega) ?_ | refine k_geq rfl rfl (fun hc => ?_) (fun hc => ?_) | refine k_eqlT rfl rfl (by omega) ?_ | refine k_eqlF rfl rfl (by omega) ?_ | refine k_eql rfl rfl (fun hc => ?_) (fun hc => ?_) | refine k_neqT rfl rfl (by omega) ?_ | refine k_neqF rfl rfl (by omega) ?_ | refine k_neq rfl rfl (fun hc => ?_) (fun hc => ?_) | refine k_len rfl rfl ?_ | refine k_ok rfl rfl ?_))
  exact ⟨.inr rfl, oK_cell rfl w4.cel.read ⟨w4.ext (x2.trans e3) e1.len, s, rfl, is.wrC w4⟩⟩

/-! ### Plain -/
theorem comb_ok {w : Int → Int → Int} {p q : Pol} (kp : Pok p) (kq : Pok q) : Pok (combP w p q) := by
  unfold combP
  split
  · exact bigP_ok
  split
  · rename_i h
    refine ⟨by simp, mrg_can kp.can kq.can, h, fun t ht => ?_⟩
    rcases mrg_mem ht with ⟨u, a, b⟩ | ⟨u, a, b⟩
    · rw [← b]; exact kp.ex u a
    · rw [← b]; exact kq.ex u a
  · exact bigP_ok
theorem S_sub (g : Int → Int) (p q : List Tm) : S g (mG wSub p q) = S g p - S g q := by
  unfold mG
  rw [S_mrg (x := 1) (y := -1) (fun a b => by unfold wSub; omega)]; omega
theorem S_neg (g : Int → Int) (q : List Tm) : S g (mG wNeg [] q) = - S g q := by
  unfold mG
  rw [S_mrg (x := 0) (y := -1) (fun a b => by unfold wNeg; omega)]; omega
theorem S_mA (g : Int → Int) (p q : List Tm) : S g (mA p q) = S g p + S g q := by
  unfold mA
  rw [S_mrg (x := 1) (y := 1) (fun a b => by omega)]; omega
theorem addP_nb {p q : Pol} (bp : p.big = false) (bq : q.big = false) : addP p q = open Classical in if fitL (mA p.ts q.ts) then ⟨false, mA p.ts q.ts⟩ else bigP := by
  unfold addP; rw [if_neg (by simp [bp, bq])]
theorem combP_nb {w : Int → Int → Int} {p q : Pol} (bp : p.big = false) (bq : q.big = false) : combP w p q = open Classical in if fitL (mG w p.ts q.ts) then ⟨false, mG w p.ts q.ts⟩ else bigP := by
  unfold combP; rw [if_neg (by simp [bp, bq])]
theorem add_bigL (q : Pol) : addP bigP q = bigP := by unfold addP; rw [if_pos (.inl rfl)]
theorem add_bigR (q : Pol) : addP q bigP = bigP := by unfold addP; rw [if_pos (.inr rfl)]
theorem mul_bigL (q : Pol) : mulP bigP q = bigP := by unfold mulP; rw [if_pos (.inl rfl)]
theorem mul_bigR (q : Pol) : mulP q bigP = bigP := by unfold mulP; rw [if_pos (.inr rfl)]
theorem comb_bigL {w : Int → Int → Int} (q : Pol) : combP w bigP q = bigP := by unfold combP; rw [if_pos (.inl rfl)]
theorem comb_bigR {w : Int → Int → Int} (q : Pol) : combP w q bigP = bigP := by unfold combP; rw [if_pos (.inr rfl)]
theorem add_comm' {p q : Pol} (kp : Pok p) (kq : Pok q) : addP p q = addP q p := by
  by_cases bp : p.big = true
  · rw [big_eq kp bp, add_bigL, add_bigR]
  by_cases bq : q.big = true
  · rw [big_eq kq bq, add_bigL, add_bigR]
  have bp' : p.big = false := by simpa using bp
  have bq' : q.big = false := by simpa using bq
  have e : mA p.ts q.ts = mA q.ts p.ts := Can.ext (mrg_can kp.can kq.can) (mrg_can kq.can kp.can) fun e => by rw [cf_mA, cf_mA]; omega
  rw [addP_nb bp' bq', addP_nb bq' bp', e]
/-- The product where nothing leaves the limits of the exponents, with all sums. -/
theorem mulP_S {p q : Pol} (kp : Pok p) (kq : Pok q) (bp : p.big = false) (bq : q.big = false) (hp : Bd 524288 p.ts) (hq : Bd 524288 q.ts) :
    ∃ L, Can L ∧ (∀ g, S g L = S2 g p.ts q.ts) ∧ (mulP p q = open Classical in if ∀ t ∈ L, t.2.natAbs ≤ cM then ⟨false, L⟩ else bigP) := by
  by_cases h0 : p.ts = [] ∨ q.ts = []
  · refine ⟨[], .nil, fun g => ?_, ?_⟩
    · rcases h0 with h | h
      · rw [h]; rfl
      · rw [h]
        unfold S2
        exact (S_zero _).symm
    · unfold mulP
      rw [if_neg (by simp [bp, bq]), if_pos h0, if_pos (by simp)]
  · have h1 : p.ts ≠ [] := fun h => h0 (.inl h)
    have h2 : q.ts ≠ [] := fun h => h0 (.inr h)
    obtain ⟨a, b⟩ := hp.lh h1
    obtain ⟨c, d⟩ := hq.lh h2
    refine ⟨mulL p.ts q.ts (mulLo p.ts q.ts) (mulN p.ts q.ts), fromC_can _ _ _, fun g => S_mulL (mul_rng kp.can kq.can) g, ?_⟩
    unfold mulP
    rw [if_neg (by simp [bp, bq]), if_neg h0, if_neg (by unfold mulLo; omega)]
theorem Bd.mono {j k : Nat} {l : List Tm} (h : Bd j l) (hk : j ≤ k) : Bd k l := fun t ht => Nat.le_trans (h t ht) hk
theorem mul_comm' {p q : Pol} (kp : Pok p) (kq : Pok q) (hp : Bd 120 p.ts) (hq : Bd 120 q.ts) : mulP p q = mulP q p := by
  by_cases bp : p.big = true
  · rw [big_eq kp bp, mul_bigL, mul_bigR]
  by_cases bq : q.big = true
  · rw [big_eq kq bq, mul_bigL, mul_bigR]
  have bp' : p.big = false := by simpa using bp
  have bq' : q.big = false := by simpa using bq
  obtain ⟨L, c1, c2, c3⟩ := mulP_S kp kq bp' bq' (hp.mono (by omega)) (hq.mono (by omega))
  obtain ⟨M, d1, d2, d3⟩ := mulP_S kq kp bq' bp' (hq.mono (by omega)) (hp.mono (by omega))
  have e : L = M := Can.ext c1 d1 fun e => by unfold cf; rw [c2, d2, S2_comm]
  rw [c3, d3, e]
theorem neg_nb {q : Pol} (kq : Pok q) (bq : q.big = false) : negP q = ⟨false, mG wNeg [] q.ts⟩ := by
  unfold negP
  rw [combP_nb rfl bq, if_pos]
  intro t ht
  have h1 := cf_mem (mrg_can .nil kq.can) ht
  have h2 : cf (mrg wNeg [] q.ts) t.1 = - cf q.ts t.1 := S_neg _ _
  rw [h2] at h1
  have := cf_abs kq.can kq.cf t.1
  omega
theorem sub_add {p q : Pol} (kp : Pok p) (kq : Pok q) : subP p q = addP p (negP q) := by
  by_cases bp : p.big = true
  · rw [big_eq kp bp, add_bigL]; exact comb_bigL q
  by_cases bq : q.big = true
  · rw [big_eq kq bq]
    have : negP bigP = bigP := comb_bigR _
    rw [this, add_bigR]; exact comb_bigR p
  have bp' : p.big = false := by simpa using bp
  have bq' : q.big = false := by simpa using bq
  rw [neg_nb kq bq', addP_nb bp' rfl]
  unfold subP
  rw [combP_nb bp' bq']
  have e : mG wSub p.ts q.ts = mA p.ts (mG wNeg [] q.ts) := Can.ext (mrg_can kp.can kq.can) (mrg_can kp.can (mrg_can .nil kq.can)) fun e => by
    unfold cf; rw [S_sub, S_mA, S_neg]; omega
  rw [e]
theorem sub_self' {p : Pol} (kp : Pok p) (bp : p.big = false) : subP p p = zeroP := by
  have e : mG wSub p.ts p.ts = [] := Can.ext (mrg_can kp.can kp.can) .nil fun e => by
    unfold cf; rw [S_sub]; simp [S]
  unfold subP
  rw [combP_nb bp bp, e, if_pos (by intro t ht; simp at ht)]
theorem mul_zero' {p : Pol} (bp : p.big = false) : mulP p zeroP = zeroP := by
  unfold mulP; rw [if_neg (by simp [bp]), if_pos (.inr rfl)]
theorem mul_zero_iff {p q : Pol} (kp : Pok p) (kq : Pok q) (bp : p.big = false) (bq : q.big = false) (hp : Bd 120 p.ts) (hq : Bd 120 q.ts) :
    (!(mulP p q).big && decide ((mulP p q).ts = [])) = (decide (p.ts = []) || decide (q.ts = [])) := by
  by_cases h0 : p.ts = [] ∨ q.ts = []
  · have e : mulP p q = zeroP := by unfold mulP; rw [if_neg (by simp [bp, bq]), if_pos h0]
    rw [e]
    rcases h0 with h | h <;> simp [h]
  · have h1 : p.ts ≠ [] := fun h => h0 (.inl h)
    have h2 : q.ts ≠ [] := fun h => h0 (.inr h)
    obtain ⟨L, c1, c2, c3⟩ := mulP_S kp kq bp bq (hp.mono (by omega)) (hq.mono (by omega))
    have hL : L ≠ [] := fun e => by
      have h3 : cf L (lo0 p.ts + lo0 q.ts) = mc p.ts q.ts (lo0 p.ts + lo0 q.ts) := c2 _
      rw [mc_low kp.can kq.can, e] at h3
      exact Int.mul_ne_zero (cf_lo kp.can h1) (cf_lo kq.can h2) h3.symm
    rw [c3]
    split
    · simp [h1, h2, hL]
    · simp [h1, h2]
theorem mulP_get {p q : Pol} (kp : Pok p) (kq : Pok q) (hp : Bd 524288 p.ts) (hq : Bd 524288 q.ts) (hb : (mulP p q).big = false) : p.big = false ∧ q.big = false ∧ ∃ L, Can L ∧ (∀ g, S g L = S2 g p.ts q.ts) ∧ mulP p q = ⟨false, L⟩ := by
  by_cases bp : p.big = true
  · rw [big_eq kp bp, mul_bigL] at hb; cases hb
  by_cases bq : q.big = true
  · rw [big_eq kq bq, mul_bigR] at hb; cases hb
  have bp' : p.big = false := by simpa using bp
  have bq' : q.big = false := by simpa using bq
  obtain ⟨L, c1, c2, c3⟩ := mulP_S kp kq bp' bq' hp hq
  refine ⟨bp', bq', L, c1, c2, ?_⟩
  rw [c3] at hb ⊢
  split at hb
  · rename_i h; rw [if_pos h]
  · cases hb
theorem bd_S {p q L : List Tm} (hL : Can L) (hc : ∀ g, S g L = S2 g p q) {j k : Nat} (hp : Bd j p) (hq : Bd k q) : Bd (j + k) L := mul_bd hL (fun e => hc _) hp hq
theorem mul_assoc' {p q r : Pol} (kp : Pok p) (kq : Pok q) (kr : Pok r) (hp : Bd 120 p.ts) (hq : Bd 120 q.ts) (hr : Bd 120 r.ts) (hx : (mulP (mulP p q) r).big = false) (hy : (mulP p (mulP q r)).big = false) : mulP (mulP p q) r = mulP p (mulP q r) := by
  have kpq := mulP_ok kp kq
  have kqr := mulP_ok kq kr
  have b1 : (mulP p q).big = false := by
    by_cases h : (mulP p q).big = true
    · rw [big_eq kpq h, mul_bigL] at hx; cases hx
    · simpa using h
  have b2 : (mulP q r).big = false := by
    by_cases h : (mulP q r).big = true
    · rw [big_eq kqr h, mul_bigR] at hy; cases hy
    · simpa using h
  obtain ⟨-, -, L1, a1, a2, a3⟩ := mulP_get kp kq (hp.mono (by omega)) (hq.mono (by omega)) b1
  obtain ⟨-, -, L2, c1, c2, c3⟩ := mulP_get kq kr (hq.mono (by omega)) (hr.mono (by omega)) b2
  have d1 : Bd 240 L1 := bd_S a1 a2 hp hq
  have d2 : Bd 240 L2 := bd_S c1 c2 hq hr
  rw [a3] at hx kpq ⊢
  rw [c3] at hy kqr ⊢
  obtain ⟨-, -, L3, e1, e2, e3⟩ := mulP_get kpq kr (d1.mono (by omega)) (hr.mono (by omega)) hx
  obtain ⟨-, -, L4, f1, f2, f3⟩ := mulP_get kp kqr (hp.mono (by omega)) (d2.mono (by omega)) hy
  rw [e3, f3]
  have : L3 = L4 := Can.ext e1 f1 fun e => by
    unfold cf
    rw [e2, f2]
    show S2 (dl e) L1 r.ts = S2 (dl e) p.ts L2
    unfold S2
    rw [a2]
    unfold S2
    refine S_congr fun x _ => ?_
    rw [c2]
    unfold S2
    refine S_congr fun y _ => S_congr fun z _ => ?_
    rw [Int.add_assoc]
  rw [this]
theorem mul_add' {p q r : Pol} (kp : Pok p) (kq : Pok q) (kr : Pok r) (hp : Bd 120 p.ts) (hq : Bd 120 q.ts) (hr : Bd 120 r.ts) (hx : (mulP p (addP q r)).big = false) (hy : (addP (mulP p q) (mulP p r)).big = false) : mulP p (addP q r) = addP (mulP p q) (mulP p r) := by
  have kpq := mulP_ok kp kq
  have kpr := mulP_ok kp kr
  have kqr := addP_ok kq kr
  have b0 : (addP q r).big = false := by
    by_cases h : (addP q r).big = true
    · rw [big_eq kqr h, mul_bigR] at hx; cases hx
    · simpa using h
  have b1 : (mulP p q).big = false := by
    by_cases h : (mulP p q).big = true
    · rw [big_eq kpq h, add_bigL] at hy; cases hy
    · simpa using h
  have b2 : (mulP p r).big = false := by
    by_cases h : (mulP p r).big = true
    · rw [big_eq kpr h, add_bigR] at hy; cases hy
    · simpa using h
  obtain ⟨-, bq, L1, a1, a2, a3⟩ := mulP_get kp kq (hp.mono (by omega)) (hq.mono (by omega)) b1
  obtain ⟨-, br, L2, c1, c2, c3⟩ := mulP_get kp kr (hp.mono (by omega)) (hr.mono (by omega)) b2
  have ea : addP q r = ⟨false, mA q.ts r.ts⟩ := by
    rw [addP_nb bq br] at b0 ⊢
    split at b0
    · rename_i h; rw [if_pos h]
    · cases b0
  have bA : Bd 120 (mA q.ts r.ts) := fun t ht => by
    rcases mrg_mem ht with ⟨u, a, b⟩ | ⟨u, a, b⟩
    · rw [← b]; exact hq u a
    · rw [← b]; exact hr u a
  rw [ea] at hx kqr ⊢
  obtain ⟨-, -, L3, e1, e2, e3⟩ := mulP_get kp kqr (hp.mono (by omega)) (bA.mono (by omega)) hx
  rw [a3, c3] at hy ⊢
  rw [addP_nb rfl rfl] at hy ⊢
  split at hy
  · rename_i h
    rw [if_pos h, e3]
    have : L3 = mA L1 L2 := Can.ext e1 (mrg_can a1 c1) fun e => by
      unfold cf
      rw [e2, S_mA, a2, c2]
      show S2 (dl e) p.ts (mA q.ts r.ts) = _
      unfold S2
      rw [← S_add]
      refine S_congr fun x _ => ?_
      rw [S_mA]
    rw [this]
  · cases hy
end Go.Proofs.YtlnjddjobbhcaaaDoor
