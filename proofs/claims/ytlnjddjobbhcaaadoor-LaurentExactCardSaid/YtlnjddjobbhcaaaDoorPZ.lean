/- Mul: contract. -/
import Derived.Test.YtlnjddjobbhcaaaDoorPY
namespace Go.Proofs.YtlnjddjobbhcaaaDoor
open Go.Ab
set_option linter.unusedVariables false
set_option linter.unusedSimpArgs false
set_option maxRecDepth 20000
set_option maxHeartbeats 4000000
attribute [local irreducible] wOps wA wSeq wBlk wRound wRoundI wOpsD wOpsS

theorem call16 (h0 : Heap) (sp sq : SV) (p q : Pol) (hp : IsD h0 sp (tms p.ts)) (hq : IsD h0 sq (tms q.ts)) (kp : Pok p) (kq : Pok q) (hd : p.ts ≠ [] → q.ts ≠ [] → hi0 p.ts + hi0 q.ts - (lo0 p.ts + lo0 q.ts) ≤ 64 + 4 * (p.ts.length : Int) * q.ts.length) :
    ∃ r h', Cal FT HKt 16 [.agg [.bool p.big, sp], .agg [.bool q.big, sq]] h0 r h' ∧ Ext h0 h' ∧ IsPol h' r (mulP p q) := by
  refine Cal.of (F := a16) rfl rfl rfl ?_
  have lp := hp.len
  have lq := hq.len
  rw [tms_len] at lp lq
  by_cases hbp : p.big = true
  · have e : mulP p q = bigP := by unfold mulP; rw [if_pos (.inl hbp)]
    rw [e, hbp]
    repeat' (first | refine w_seq ?_ | refine w_seqN ?_ | refine w_seqR ?_ | refine w_ret ?_ | refine w_ops ?_ | ((refine i_cond ?_); refine w_condT rfl ?_) | ((refine i_nil ?_); first | refine w_end1 rfl ?_ | refine w_end3 rfl rfl rfl ?_ | refine w_end4 rfl rfl rfl rfl ?_) | ((refine i_cons ?_); first | (have z := e2; refine k_newC ?_; intro h3 e3 c3; have d1 := (c1.ext e2).ext e3; have d2 := c2.ext e3) | (have z := e1; refine k_boxC rfl ?_; intro h2 e2 c2) | (refine k_boxC rfl ?_; intro h1 e1 c1) | refine k_ldC0 rfl d1 ?_ | (refine k_bld rfl rfl ?_) | (refine k_stC rfl rfl c3 ?_; intro h4 w4) | refine k_skip rfl ?_ | refine k_mv rfl ?_ | refine k_pickT rfl rfl ?_ | refine k_ok rfl rfl ?_))
    exact ⟨.inr rfl, oK_cell rfl w4.cel.read ⟨w4.ext (e1.trans (e2.trans e3)) (Nat.le_trans e1.len e2.len), .nilS, rfl, IsD.nil _⟩⟩
  have hbp' : p.big = false := by simpa using hbp
  rw [hbp']
  by_cases hbq : q.big = true
  · have e : mulP p q = bigP := by unfold mulP; rw [if_pos (.inr hbq)]
    rw [e, hbq]
    repeat' (first | refine w_seq ?_ | refine w_seqN ?_ | refine w_seqR ?_ | refine w_ret ?_ | refine w_ops ?_ | ((refine i_cond ?_); refine w_condT rfl ?_) | ((refine i_nil ?_); first | refine w_end1 rfl ?_ | refine w_end3 rfl rfl rfl ?_ | refine w_end4 rfl rfl rfl rfl ?_) | ((refine i_cons ?_); first | (have z := e2; refine k_newC ?_; intro h3 e3 c3; have d1 := (c1.ext e2).ext e3; have d2 := c2.ext e3) | (have z := e1; refine k_boxC rfl ?_; intro h2 e2 c2) | (refine k_boxC rfl ?_; intro h1 e1 c1) | refine k_ldC0 rfl d1 ?_ | refine k_ldC0 rfl d2 ?_ | (refine k_bld rfl rfl ?_) | (refine k_stC rfl rfl c3 ?_; intro h4 w4) | refine k_want rfl ?_ | refine k_mv rfl ?_ | refine k_pickF rfl rfl ?_ | refine k_ok rfl rfl ?_))
    exact ⟨.inr rfl, oK_cell rfl w4.cel.read ⟨w4.ext (e1.trans (e2.trans e3)) (Nat.le_trans e1.len e2.len), .nilS, rfl, IsD.nil _⟩⟩
  have hbq' : q.big = false := by simpa using hbq
  rw [hbq']
  have nb : ¬ (p.big = true ∨ q.big = true) := fun h => h.elim hbp hbq
  by_cases hpe : p.ts = []
  · have e : mulP p q = zeroP := by unfold mulP; rw [if_neg nb, if_pos (.inl hpe)]
    have lp0 : lenS false sp = some 0 := by rw [lp, hpe]; rfl
    rw [e]
    repeat' (first | refine w_seq ?_ | refine w_seqN ?_ | refine w_seqR ?_ | refine w_skip ?_ | refine w_ret ?_ | refine w_ops ?_ | ((refine i_cond ?_); first | refine w_condT rfl ?_ | refine w_condF rfl ?_) | ((refine i_nil ?_); first | refine w_end1 rfl ?_ | refine w_end3 rfl rfl rfl ?_ | refine w_end4 rfl rfl rfl rfl ?_) | ((refine i_cons ?_); first | (have z := e2; refine k_newC ?_; intro h3 e3 c3; have d1 := (c1.ext e2).ext e3; have d2 := c2.ext e3) | (have z := e1; refine k_boxC rfl ?_; intro h2 e2 c2) | (refine k_boxC rfl ?_; intro h1 e1 c1) | refine k_ldC0 rfl d1 ?_ | refine k_ldC0 rfl d2 ?_ | refine k_ldC1 rfl d1 ?_ | refine k_len rfl lp0 ?_ | (refine k_bld rfl rfl ?_) | (refine k_stC rfl rfl c3 ?_; intro h4 w4) | refine k_skip rfl ?_ | refine k_want rfl ?_ | refine k_mv rfl ?_ | refine k_pickT rfl rfl ?_ | refine k_pickF rfl rfl ?_ | refine k_eqlT rfl rfl (by omega) ?_ | refine k_ok rfl rfl ?_))
    exact ⟨.inr rfl, oK_cell rfl w4.cel.read ⟨w4.ext (e1.trans (e2.trans e3)) (Nat.le_trans e1.len e2.len), .nilS, rfl, IsD.nil _⟩⟩
  have lpp : 0 < p.ts.length := List.length_pos_iff.2 hpe
  by_cases hqe : q.ts = []
  · have e : mulP p q = zeroP := by unfold mulP; rw [if_neg nb, if_pos (.inr hqe)]
    have lq0 : lenS false sq = some 0 := by rw [lq, hqe]; rfl
    rw [e]
    repeat' (first | refine w_seq ?_ | refine w_seqN ?_ | refine w_seqR ?_ | refine w_skip ?_ | refine w_ret ?_ | refine w_ops ?_ | ((refine i_cond ?_); first | refine w_condT rfl ?_ | refine w_condF rfl ?_) | ((refine i_nil ?_); first | refine w_end1 rfl ?_ | refine w_end3 rfl rfl rfl ?_ | refine w_end4 rfl rfl rfl rfl ?_) | ((refine i_cons ?_); first | (have z := e2; refine k_newC ?_; intro h3 e3 c3; have d1 := (c1.ext e2).ext e3; have d2 := c2.ext e3) | (have z := e1; refine k_boxC rfl ?_; intro h2 e2 c2) | (refine k_boxC rfl ?_; intro h1 e1 c1) | refine k_ldC0 rfl d1 ?_ | refine k_ldC0 rfl d2 ?_ | refine k_ldC1 rfl d1 ?_ | refine k_ldC1 rfl d2 ?_ | refine k_len rfl lp ?_ | refine k_len rfl lq0 ?_ | (refine k_bld rfl rfl ?_) | (refine k_stC rfl rfl c3 ?_; intro h4 w4) | refine k_want rfl ?_ | refine k_mv rfl ?_ | refine k_pickF rfl rfl ?_ | refine k_eqlT rfl rfl (by omega) ?_ | refine k_eqlF rfl rfl (by omega) ?_ | refine k_ok rfl rfl ?_))
    exact ⟨.inr rfl, oK_cell rfl w4.cel.read ⟨w4.ext (e1.trans (e2.trans e3)) (Nat.le_trans e1.len e2.len), .nilS, rfl, IsD.nil _⟩⟩
  have lqp : 0 < q.ts.length := List.length_pos_iff.2 hqe
  have ne2 : ¬ (p.ts = [] ∨ q.ts = []) := fun h => h.elim hpe hqe
  have hd := hd hpe hqe
  have kl := kp.lo
  have kl2 := kq.lo
  have plen := kp.len
  have qlen := kq.len
  have k27p := fun H (e : Ext h0 H) => call27 H false sp p.ts (hp.ext e)
  have k27q := fun H (e : Ext h0 H) => call27 H false sq q.ts (hq.ext e)
  have k28p := fun H (e : Ext h0 H) => call28 H false sp p.ts (hp.ext e) plen
  have k28q := fun H (e : Ext h0 H) => call28 H false sq q.ts (hq.ext e) qlen
  have hmul : 4 * (p.ts.length : Int) * (q.ts.length : Int) ≤ 8388612 * 2097153 := by
    have h1 : 4 * (p.ts.length : Int) * (q.ts.length : Int) ≤ 8388612 * (q.ts.length : Int) := Int.mul_le_mul_of_nonneg_right (by omega) (by omega)
    omega
  have hmul0 : 0 ≤ 4 * (p.ts.length : Int) * (q.ts.length : Int) := Int.mul_nonneg (by omega) (by omega)
  have hrng := mul_rng kp.can kq.can
  have hmlo : mulLo p.ts q.ts = lo0 p.ts + lo0 q.ts := rfl
  have hmn : ((mulN p.ts q.ts : Nat) : Int) = hi0 p.ts + hi0 q.ts - (lo0 p.ts + lo0 q.ts) + 1 := by unfold mulN; omega
  generalize hLo : lo0 p.ts + lo0 q.ts = lo at *
  generalize hHi : hi0 p.ts + hi0 q.ts = hi at *
  by_cases hout : lo < -1048576 ∨ 1048576 < hi
  · have e : mulP p q = bigP := by unfold mulP; rw [if_neg nb, if_neg ne2, hmlo, hHi, if_pos hout]
    rw [e]
    by_cases ho1 : lo < -1048576
    · repeat' (first | refine w_seq ?_ | refine w_seqN ?_ | refine w_seqR ?_ | refine w_skip ?_ | refine w_ret ?_ | refine w_ops ?_ | refine w_opsD ?_ | refine d_one ?_ | refine d_nil ?_ | ((refine i_cond ?_); first | refine w_condT rfl ?_ | refine w_condF rfl ?_) | ((refine i_nil ?_); first | refine d_same ?_ | refine d_ord ?_ | refine d_ext (by assumption) ?_ | refine w_end1 rfl ?_ | refine w_end3 rfl rfl rfl ?_ | refine w_end4 rfl rfl rfl rfl ?_ | refine w_end5 rfl rfl rfl rfl rfl ?_ | refine w_end6 rfl rfl rfl rfl rfl rfl ?_) | ((refine i_cons ?_); first | (have z := e2; refine k_newC ?_; intro h3 e3 c3; have x3 := e1.trans (e2.trans e3); have n1 := e1.len; have n2 := e2.len; have n3 := c3.lt; have d1 := (c1.ext e2).ext e3; have d2 := c2.ext e3; have m1 := c1.lt; have m2 := c2.lt) | (have z := e1; refine k_boxC rfl ?_; intro h2 e2 c2) | (refine k_boxC rfl ?_; intro h1 e1 c1) | refine k_ldC0 rfl d1 ?_ | refine k_ldC0 rfl d2 ?_ | refine k_ldC1 rfl d1 ?_ | refine k_ldC1 rfl d2 ?_ | refine k_len rfl lp ?_ | refine k_len rfl lq ?_ | refine k_ldC rfl d1 ?_ | refine k_ldC rfl d2_4 ?_ | refine k_ldC rfl d1_5 ?_ | refine k_ldC rfl d2_6 ?_ | (refine k_call rfl (k27p h3 x3) ?_; rintro r h4 ⟨e4, rfl⟩; have d1_4 := d1.ext e4; have d2_4 := d2.ext e4; have c3_4 := c3.ext e4) | (refine k_call rfl (k27q h4 (x3.trans e4)) ?_; rintro r h5 ⟨e5, rfl⟩; have d1_5 := d1_4.ext e5; have d2_5 := d2_4.ext e5; have c3_5 := c3_4.ext e5) | (refine k_call rfl (k28p h5 (x3.trans (e4.trans e5))) ?_; rintro r h6 ⟨e6, rfl⟩; have d1_6 := d1_5.ext e6; have d2_6 := d2_5.ext e6; have c3_6 := c3_5.ext e6) | (refine k_call rfl (k28q h6 (x3.trans (e4.trans (e5.trans e6)))) ?_; rintro r h7 ⟨e7, rfl⟩; have d1_7 := d1_6.ext e7; have d2_7 := d2_6.ext e7; have c3_7 := c3_6.ext e7) | (have z := e7; refine k_add rfl rfl (by omega) ?_; rw [hHi]) | (have z := e5; refine k_add rfl rfl (by omega) ?_; rw [hLo]) | (have z := e7; refine k_new1 ?_; intro h8 e8 n8; have m7 := (e4.trans (e5.trans (e6.trans e7))).len; have d1_8 := d1_7.ext e8; have d2_8 := d2_7.ext e8; have c3_8 := c3_7.ext e8) | (refine k_st1 rfl rfl n8 ?_; intro h9 w9 c9; have c3_9 : Cel h9 h2.length (.bool false) .nilS := (by unfold Cel; rw [w9, List.getElem?_set_ne (by omega)]; exact c3_8)) | refine k_ldb rfl (Cel1.at c9) rfl ?_ | (refine k_bld rfl rfl ?_) | (refine k_stC rfl rfl c3_9 ?_; intro hA wA) | refine k_skip rfl ?_ | refine k_want rfl ?_ | refine k_mv rfl ?_ | refine k_pickT rfl rfl ?_ | refine k_pickF rfl rfl ?_ | refine k_lssT rfl rfl (by omega) ?_ | refine k_eqlF rfl rfl (by omega) ?_ | refine k_ok rfl rfl ?_))
      exact ⟨.inr rfl, oK_cell rfl wA.cel.read ⟨wA.ext (by rw [w9]; exact (x3.trans (e4.trans (e5.trans (e6.trans (e7.trans e8))))).set (by omega) _) (Nat.le_trans e1.len e2.len), .nilS, rfl, IsD.nil _⟩⟩
    · have ho2 : 1048576 < hi := by omega
      repeat' (first | refine w_seq ?_ | refine w_seqN ?_ | refine w_seqR ?_ | refine w_skip ?_ | refine w_ret ?_ | refine w_ops ?_ | refine w_opsD ?_ | refine d_one ?_ | refine d_nil ?_ | ((refine i_cond ?_); first | refine w_condT rfl ?_ | refine w_condF rfl ?_) | ((refine i_nil ?_); first | refine d_same ?_ | refine d_ord ?_ | refine d_ext (by assumption) ?_ | refine w_end1 rfl ?_ | refine w_end3 rfl rfl rfl ?_ | refine w_end4 rfl rfl rfl rfl ?_ | refine w_end5 rfl rfl rfl rfl rfl ?_ | refine w_end6 rfl rfl rfl rfl rfl rfl ?_) | ((refine i_cons ?_); first | (have z := e2; refine k_newC ?_; intro h3 e3 c3; have x3 := e1.trans (e2.trans e3); have n1 := e1.len; have n2 := e2.len; have n3 := c3.lt; have d1 := (c1.ext e2).ext e3; have d2 := c2.ext e3; have m1 := c1.lt; have m2 := c2.lt) | (have z := e1; refine k_boxC rfl ?_; intro h2 e2 c2) | (refine k_boxC rfl ?_; intro h1 e1 c1) | refine k_ldC0 rfl d1 ?_ | refine k_ldC0 rfl d2 ?_ | refine k_ldC1 rfl d1 ?_ | refine k_ldC1 rfl d2 ?_ | refine k_len rfl lp ?_ | refine k_len rfl lq ?_ | refine k_ldC rfl d1 ?_ | refine k_ldC rfl d2_4 ?_ | refine k_ldC rfl d1_5 ?_ | refine k_ldC rfl d2_6 ?_ | (refine k_call rfl (k27p h3 x3) ?_; rintro r h4 ⟨e4, rfl⟩; have d1_4 := d1.ext e4; have d2_4 := d2.ext e4; have c3_4 := c3.ext e4) | (refine k_call rfl (k27q h4 (x3.trans e4)) ?_; rintro r h5 ⟨e5, rfl⟩; have d1_5 := d1_4.ext e5; have d2_5 := d2_4.ext e5; have c3_5 := c3_4.ext e5) | (refine k_call rfl (k28p h5 (x3.trans (e4.trans e5))) ?_; rintro r h6 ⟨e6, rfl⟩; have d1_6 := d1_5.ext e6; have d2_6 := d2_5.ext e6; have c3_6 := c3_5.ext e6) | (refine k_call rfl (k28q h6 (x3.trans (e4.trans (e5.trans e6)))) ?_; rintro r h7 ⟨e7, rfl⟩; have d1_7 := d1_6.ext e7; have d2_7 := d2_6.ext e7; have c3_7 := c3_6.ext e7) | (have z := e7; refine k_add rfl rfl (by omega) ?_; rw [hHi]) | (have z := e5; refine k_add rfl rfl (by omega) ?_; rw [hLo]) | (have z := e7; refine k_new1 ?_; intro h8 e8 n8; have m7 := (e4.trans (e5.trans (e6.trans e7))).len; have d1_8 := d1_7.ext e8; have d2_8 := d2_7.ext e8; have c3_8 := c3_7.ext e8) | (refine k_st1 rfl rfl n8 ?_; intro h9 w9 c9; have c3_9 : Cel h9 h2.length (.bool false) .nilS := (by unfold Cel; rw [w9, List.getElem?_set_ne (by omega)]; exact c3_8)) | refine k_ldb rfl (Cel1.at c9) rfl ?_ | (refine k_bld rfl rfl ?_) | (refine k_stC rfl rfl c3_9 ?_; intro hA wA) | refine k_want rfl ?_ | refine k_mv rfl ?_ | refine k_pickF rfl rfl ?_ | refine k_lssF rfl rfl (by omega) ?_ | refine k_gtrT rfl rfl (by omega) ?_ | refine k_eqlF rfl rfl (by omega) ?_ | refine k_ok rfl rfl ?_))
      exact ⟨.inr rfl, oK_cell rfl wA.cel.read ⟨wA.ext (by rw [w9]; exact (x3.trans (e4.trans (e5.trans (e6.trans (e7.trans e8))))).set (by omega) _) (Nat.le_trans e1.len e2.len), .nilS, rfl, IsD.nil _⟩⟩
  repeat' (first | refine w_seq ?_ | refine w_seqN ?_ | refine w_skip ?_ | refine w_ops ?_ | refine w_opsD ?_ | refine d_one ?_ | refine d_nil ?_ | ((refine i_cond ?_); refine w_condF rfl ?_) | ((refine i_nil ?_); first | refine d_same ?_ | refine d_ord ?_ | refine d_ext (by assumption) ?_ | refine w_end3 rfl rfl rfl ?_ | refine w_end4 rfl rfl rfl rfl ?_ | refine w_end5 rfl rfl rfl rfl rfl ?_ | refine w_end6 rfl rfl rfl rfl rfl rfl ?_) | ((refine i_cons ?_); first | (have z := eB; refine k_new1 ?_; intro hC eC cC; have oC := oB.ext eC; have c9C := Cel1.ext c9B eC; have d1_C := d1_B.ext eC; have d2_C := d2_B.ext eC; have c3_C := c3_B.ext eC) | (have z := e2; refine k_newC ?_; intro h3 e3 c3; have x3 := e1.trans (e2.trans e3); have n1 := e1.len; have n2 := e2.len; have n3 := c3.lt; have d1 := (c1.ext e2).ext e3; have d2 := c2.ext e3; have m1 := c1.lt; have m2 := c2.lt) | (have z := e1; refine k_boxC rfl ?_; intro h2 e2 c2) | (refine k_boxC rfl ?_; intro h1 e1 c1) | refine k_ldC0 rfl d1 ?_ | refine k_ldC0 rfl d2 ?_ | refine k_ldC1 rfl d1 ?_ | refine k_ldC1 rfl d2 ?_ | refine k_len rfl lp ?_ | refine k_len rfl lq ?_ | refine k_ldC rfl d1 ?_ | refine k_ldC rfl d2_4 ?_ | refine k_ldC rfl d1_5 ?_ | refine k_ldC rfl d2_6 ?_ | (refine k_call rfl (k27p h3 x3) ?_; rintro r h4 ⟨e4, rfl⟩; have d1_4 := d1.ext e4; have d2_4 := d2.ext e4; have c3_4 := c3.ext e4) | (refine k_call rfl (k27q h4 (x3.trans e4)) ?_; rintro r h5 ⟨e5, rfl⟩; have d1_5 := d1_4.ext e5; have d2_5 := d2_4.ext e5; have c3_5 := c3_4.ext e5) | (refine k_call rfl (k28p h5 (x3.trans (e4.trans e5))) ?_; rintro r h6 ⟨e6, rfl⟩; have d1_6 := d1_5.ext e6; have d2_6 := d2_5.ext e6; have c3_6 := c3_5.ext e6) | (refine k_call rfl (k28q h6 (x3.trans (e4.trans (e5.trans e6)))) ?_; rintro r h7 ⟨e7, rfl⟩; have d1_7 := d1_6.ext e7; have d2_7 := d2_6.ext e7; have c3_7 := c3_6.ext e7) | (have z := e7; refine k_add rfl rfl (by omega) ?_; rw [hHi]) | (have z := e5; refine k_add rfl rfl (by omega) ?_; rw [hLo]) | (have z := e7; refine k_new1 ?_; intro h8 e8 n8; have m7 := (e4.trans (e5.trans (e6.trans e7))).len; have d1_8 := d1_7.ext e8; have d2_8 := d2_7.ext e8; have c3_8 := c3_7.ext e8) | (refine k_st1 rfl rfl n8 ?_; intro h9 w9 c9; have x9 : Ext h0 h9 := (by rw [w9]; exact (x3.trans (e4.trans (e5.trans (e6.trans (e7.trans e8))))).set (by omega) _); have c3_9 : Cel h9 h2.length (.bool false) .nilS := (by unfold Cel; rw [w9, List.getElem?_set_ne (by omega)]; exact c3_8); have d1_9 : Cel h9 h0.length (.bool false) sp := (by unfold Cel; rw [w9, List.getElem?_set_ne (by omega)]; exact d1_8); have d2_9 : Cel h9 h1.length (.bool false) sq := (by unfold Cel; rw [w9, List.getElem?_set_ne (by omega)]; exact d2_8)) | refine k_ldb rfl (Cel1.at c9) rfl ?_ | refine k_ldC1 rfl d1_9 ?_ | refine k_ldC1 rfl d2_9 ?_ | (refine k_mkD x9 rfl rfl (by simp only [bigN]; omega) ?_; intro S hB oB eB xB lB; have c9B := Cel1.ext c9 eB; have d1_B := d1_9.ext eB; have d2_B := d2_9.ext eB; have c3_B := c3_9.ext eB) | refine k_want rfl ?_ | refine k_mv rfl ?_ | refine k_pickF rfl rfl ?_ | refine k_add rfl rfl (by omega) ?_ | refine k_sub rfl rfl (by omega) ?_ | refine k_mul rfl rfl (by omega) ?_ | refine k_lssF rfl rfl (by omega) ?_ | refine k_gtrF rfl rfl (by omega) ?_ | refine k_eqlF rfl rfl (by omega) ?_ | refine k_ok rfl rfl ?_))
  refine k_st1 rfl rfl cC ?_
  intro hD wD cD
  have lC : hB.length < hC.length := (List.getElem?_eq_some_iff.1 cC).1
  have l79 : h7.length < h9.length := (List.getElem?_eq_some_iff.1 c9).1
  have l19 := d1_9.lt
  have l29 := d2_9.lt
  have l39 := c3_9.lt
  have nD : NotAt S hB.length := oC.cel cC
  have xD : Ext h0 hD := by rw [wD]; exact (xB.trans eC).set xB.len _
  have hrep : List.replicate (hi - lo + 1).toNat (SV.int IntKind.u64 0, SV.int IntKind.u64 0) = (List.replicate (mulN p.ts q.ts) (0 : Int)).map wdP := by
    rw [List.map_replicate, show (hi - lo + 1).toNat = mulN p.ts q.ts from by omega]
    rfl
  rw [hrep] at oC
  have oD : OwnD h0 hD S ((List.replicate (mulN p.ts q.ts) (0 : Int)).map wdP) := by rw [wD]; exact (oC.set nD _).weaken x9.len
  have c9D : Cel1 hD h7.length (.int .i64 lo) := by unfold Cel1; rw [wD, List.getElem?_set_ne (by omega)]; exact c9C
  have d1_D : Cel hD h0.length (.bool false) sp := by unfold Cel; rw [wD, List.getElem?_set_ne (by omega)]; exact d1_C
  have d2_D : Cel hD h1.length (.bool false) sq := by unfold Cel; rw [wD, List.getElem?_set_ne (by omega)]; exact d2_C
  have c3_D : Cel hD h2.length (.bool false) .nilS := by unfold Cel; rw [wD, List.getElem?_set_ne (by omega)]; exact c3_C
  have xS : Sx h0 hD hD S hB.length h7.length lo (List.replicate (mulN p.ts q.ts) 0) := ⟨xD, oD, cD, c9D, fun _ _ h _ => h⟩
  rw [hmlo] at hrng
  have k43 := call43 h0 hD S hB.length h7.length lo (mulN p.ts q.ts) (by omega) false false sp sq p.ts q.ts hp hq kp.fit kq.fit hrng (by omega) xS
  have n3 := oD.cel c3_D
  clear wD c9C d1_C d2_C c3_C oC oB
  refine w_nilK ?_
  repeat' (first | refine w_seq ?_ | refine w_seqN ?_ | refine w_blk ?_ | refine w_ops ?_ | ((refine i_nil ?_); first | refine w_end3 rfl rfl rfl ?_ | refine w_end4 rfl rfl rfl rfl ?_ | refine w_end6 rfl rfl rfl rfl rfl rfl ?_) | ((refine i_cons ?_); first | refine k_ldC rfl d1_D ?_ | refine k_ldC rfl d2_D ?_ | (refine k_call rfl k43 ?_; rintro r hE xE; have c3_E := xE.k _ _ c3_D n3) | (have z := xE; refine k_newC ?_; intro hF eF c8; have xF := xE.ext eF; have c3_F := Cel.ext c3_E eF; have lS : lenS false S = some ((mulN p.ts q.ts : Nat) : Int) := (by have := xF.o.len; rwa [List.length_map, smL_len] at this)) | refine k_ldb rfl (Cel1.at xF.b7) rfl ?_ | refine k_len rfl lS ?_ | refine k_mv rfl ?_ | refine k_ok rfl rfl ?_))
  have hst : St16 h0 hF h2.length h7.length hE.length lo false S .nilS (smL (fun e => mc p.ts q.ts e) lo (mulN p.ts q.ts)) (fromC (fun e => mc p.ts q.ts e) lo 0) := ⟨xF.e, c3_F, xF.b5, c8, .inl ⟨rfl, rfl⟩, xF.o.is, fun j => .inl (fun o n c e => by cases e)⟩
  have nE := c3_E
  have lE : h2.length < hE.length := (List.getElem?_eq_some_iff.1 c3_E).1
  have l02 : h0.length ≤ h2.length := Nat.le_trans e1.len e2.len
  have hmul : mulP p q = if ∀ t ∈ mulL p.ts q.ts lo (mulN p.ts q.ts), t.2.natAbs ≤ cM then ⟨false, mulL p.ts q.ts lo (mulN p.ts q.ts)⟩ else bigP := by unfold mulP; rw [if_neg nb, if_neg ne2, hmlo, hHi, if_neg hout]
  refine w_loop (I16 h0 h2.length h7.length hE.length lo S (fun e => mc p.ts q.ts e) (mulN p.ts q.ts)) (cK [4, 5, 8, 73, 74, 75] (mulN p.ts q.ts) 75) (R16 h0 h2.length h7.length hE.length lo S (fun e => mc p.ts q.ts e) (mulN p.ts q.ts)) ⟨0, .nilS, Nat.zero_le _, fun k hk => absurd hk (by omega), hst, rfl⟩ (round16 h0 h2.length h7.length hE.length lo S (fun e => mc p.ts q.ts e) (mulN p.ts q.ts) (by omega) (by omega) (mc_small kp kq) l02 (by have := xF.e.len; have := xS.e.len; have := xE.e.len; omega) (by omega)) ?_
  rintro ex E' h3 (⟨rfl, s, _, _, _, _, hsm, st, rfl⟩ | ⟨rfl, hns, e3, c4, rfl⟩)
  · have c4 := st.c4
    repeat' (first | refine w_seq ?_ | refine w_seqN ?_ | refine w_blkX ?_ | refine w_ret ?_ | refine w_ops ?_ | ((refine i_nil ?_); refine w_end1 rfl ?_) | ((refine i_cons ?_); first | refine k_ldC rfl st.c8 ?_ | (refine k_stC rfl rfl c4 ?_; intro h4 w4)))
    refine ⟨.inr rfl, oK_cell rfl w4.cel.read ⟨w4.ext st.e l02, ?_⟩⟩
    rw [hmul, if_pos]
    · exact ⟨s, rfl, (st.o.wrC w4).is⟩
    · intro t ht
      obtain ⟨a, b, c, d⟩ := fromC_mem.1 ht
      have := hsm (t.1 - lo).toNat (by omega)
      rw [show lo + ((t.1 - lo).toNat : Int) = t.1 from by omega] at this
      rw [c]; exact this
  · repeat' (first | refine w_seqR ?_ | refine w_blkR ?_)
    refine ⟨.inr rfl, oK_cell rfl c4.read ⟨e3, ?_⟩⟩
    rw [hmul, if_neg]
    · exact ⟨.nilS, rfl, IsD.nil _⟩
    · intro hall
      refine hns fun k hk => ?_
      by_cases hz : mc p.ts q.ts (lo + k) = 0
      · show (mc p.ts q.ts (lo + k)).natAbs ≤ cM
        rw [hz]; simp [cM]
      · exact hall (lo + k, mc p.ts q.ts (lo + k)) (fromC_mem.2 ⟨by omega, by omega, rfl, hz⟩)
end Go.Proofs.YtlnjddjobbhcaaaDoor
