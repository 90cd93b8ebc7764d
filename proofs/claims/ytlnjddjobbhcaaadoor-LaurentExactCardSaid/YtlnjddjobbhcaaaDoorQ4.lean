/- Division: the steps. -/
import Derived.Test.YtlnjddjobbhcaaaDoorQ3
namespace Go.Proofs.YtlnjddjobbhcaaaDoor
open Go.Ab
set_option linter.unusedVariables false
set_option linter.unusedSimpArgs false
set_option maxRecDepth 20000
set_option maxHeartbeats 4000000
attribute [local irreducible] wOps wA wSeq wBlk wRound wRoundI wOpsD wOpsS

theorem dvL_none {p q : List Tm} {M X i : Nat} (h : dvL p q M X i = none) : ∀ {j : Nat}, i ≤ j → dvL p q M X j = none
  | 0, hj => by obtain rfl : i = 0 := by omega
                exact h
  | j + 1, hj => by
    by_cases e : i = j + 1
    · rw [← e]; exact h
    · rw [dvL, dvL_none h (j := j) (by omega)]; rfl
theorem dv_len {p q : List Tm} {M X i : Nat} {r : List Tm} (hq : Can q) (h0 : q ≠ []) (h : dvL p q M X i = some r) : r.length ≤ i :=
  can_len (dv_ok hq h0 h).can fun t ht => (dv_ok hq h0 h).rng t ht
theorem rk_small {P Q : Pol} (kp : Pok P) (kq : Pok Q) (h0 : Q.ts ≠ []) {i : Nat} {r : List Tm} (h : dvL P.ts Q.ts cM eM i = some r) (hi : i ≤ 2097153) (e : Int) : -170141183460469231731687303715884105728 < cf P.ts e - mc r Q.ts e ∧ cf P.ts e - mc r Q.ts e < 170141183460469231731687303715884105728 := by
  have h1 := mc_abs (p := r) kq.can kq.cf e (fun t ht => ((dv_ok kq.can h0 h).bd t ht).1)
  have h2 := cf_abs kp.can kp.cf e
  have h3 := dv_len kq.can h0 h
  have h4 := Nat.mul_le_mul_right (cM * cM) (Nat.le_trans h3 hi)
  simp only [cM] at *
  omega
def I13b (h0 : Heap) (q2 q3 q4 q10 : Nat) (sp sq S : SV) (p q : List Tm) (N Ln : Nat) (E : Env) (h : Heap) : Prop := ∃ (i : Nat) (r : List Tm) (s : SV), i ≤ Ln + 1 ∧ dvL p q cM eM i = some r ∧ St13 h0 h q2 q3 q4 q10 sp sq S s (smL (fun e => cf p e - mc r q e) (lo0 p) N) r ∧
  E.keep [2, 3, 4, 6, 7, 10, 93, 94] = [(2, some (.sc (.ptr q2 0))), (3, some (.sc (.ptr q3 0))), (4, some (.sc (.ptr q4 0))), (6, some (.sc (.int .i64 (Ln : Nat)))), (7, some (.sc S)), (10, some (.sc (.ptr q10 0))), (93, some (.sc (.int .i64 ((Ln : Nat) + 1)))), (94, some (.sc (.int .i64 (i : Nat))))]
def R13b (h0 : Heap) (q2 q3 q4 q10 : Nat) (sp sq S : SV) (p q : List Tm) (N Ln : Nat) (ex : Ex) (E : Env) (h : Heap) : Prop :=
  (ex = .ex 3 ∧ ∃ r s a b c, dvL p q cM eM (Ln + 1) = some r ∧ St13 h0 h q2 q3 q4 q10 sp sq S s (smL (fun e => cf p e - mc r q e) (lo0 p) N) r ∧
    E = [(2, some (.sc (.ptr q2 0))), (3, some (.sc (.ptr q3 0))), (4, some (.sc (.ptr q4 0))), (6, some (.sc (.int .i64 (Ln : Nat)))), (7, some (.sc S)), (10, some (.sc (.ptr q10 0))), (93, a), (94, b), (95, c)]) ∨
  (ex = .rt ∧ dvL p q cM eM (Ln + 1) = none ∧ Ext h0 h ∧ Cel h q4 (.bool false) .nilS ∧ E = [(4, some (.sc (.ptr q4 0))), (5, some (.sc (.int .i64 10)))])
theorem round13b (h0 : Heap) (q2 q3 q4 q10 : Nat) (sp sq S : SV) (P Q : Pol) (N Ln : Nat) (hp : IsD h0 sp (tms P.ts)) (hq : IsD h0 sq (tms Q.ts)) (kp : Pok P) (kq : Pok Q) (b : Tm) (q' : List Tm) (hqe : Q.ts = b :: q') (hN : (N : Int) = hi0 P.ts - lo0 P.ts + 1) (hL : (Ln : Int) = dvN P.ts Q.ts) (l4 : h0.length ≤ q4) (l10 : h0.length ≤ q10 ∧ q2 ≠ q10 ∧ q3 ≠ q10 ∧ q4 ≠ q10) (E : Env) (h : Heap) (hI : I13b h0 q2 q3 q4 q10 sp sq S P.ts Q.ts N Ln E h) :
    wA FT HKt b13L1 (E.keep [2, 3, 4, 6, 7, 10, 93, 94]) h (wRound (I13b h0 q2 q3 q4 q10 sp sq S P.ts Q.ts N Ln) (cK [2, 3, 4, 6, 7, 10, 93, 94] (Ln + 1) 94) (cK [2, 3, 4, 6, 7, 10, 93, 94] (Ln + 1) 94 E h) (R13b h0 q2 q3 q4 q10 sp sq S P.ts Q.ts N Ln)) := by
  obtain ⟨i, r, s, hi, hdv, st, hE⟩ := hI
  have hm : cK [2, 3, 4, 6, 7, 10, 93, 94] (Ln + 1) 94 E h = Ln + 1 - i := by unfold cK; rw [hE]; rfl
  rw [hm, hE]
  have kpl := kp.lo
  have kql := kq.lo
  have ql := kq.len
  have q0 : Q.ts ≠ [] := by rw [hqe]; simp
  have hbm : b ∈ Q.ts := by rw [hqe]; exact .head _
  have blo : lo0 Q.ts = b.1 := by rw [hqe]; rfl
  have bhi := hi0_ge kq.can b hbm
  have bnz := kq.can.nz b hbm
  have bcf : cf Q.ts (lo0 Q.ts) = b.2 := by rw [blo]; exact cf_mem kq.can hbm
  have bc := kq.cf b hbm
  have be := kq.ex b hbm
  have lq := hq.len
  rw [tms_len] at lq
  have hdn : dvN P.ts Q.ts = hi0 P.ts - lo0 P.ts - (hi0 Q.ts - lo0 Q.ts) := rfl
  rw [hdn] at hL
  have hLn : Ln + 1 ≤ 2097153 := by omega
  have rl := dv_len kq.can q0 hdv
  by_cases hlt : i < Ln + 1
  · have hiN : i < N := by omega
    have hsm := rk_small kp kq q0 hdv (by omega) (lo0 P.ts + i)
    have hget := smL_get (f := fun e => cf P.ts e - mc r Q.ts e) (lo := lo0 P.ts) hiN
    have hrk : rk P.ts Q.ts r i = cf P.ts (lo0 P.ts + i) - mc r Q.ts (lo0 P.ts + i) := rfl
    have hstep : dvL P.ts Q.ts cM eM (i + 1) = (if rk P.ts Q.ts r i = 0 then some r else if rk P.ts Q.ts r i % cf Q.ts (lo0 Q.ts) = 0 ∧ (rk P.ts Q.ts r i / cf Q.ts (lo0 Q.ts)).natAbs ≤ cM ∧ (lo0 P.ts - lo0 Q.ts + i).natAbs ≤ eM then some (r ++ [(lo0 P.ts - lo0 Q.ts + i, rk P.ts Q.ts r i / cf Q.ts (lo0 Q.ts))]) else none) := by rw [dvL, hdv]; rfl
    rw [hrk, bcf] at hstep
    obtain ⟨id2, cap2, eS, rS⟩ := st.a.rd hget
    rw [smL_len] at eS
    subst eS
    generalize hv : cf P.ts (lo0 P.ts + i) - mc r Q.ts (lo0 P.ts + i) = v at *
    have k38 := fun H => call38 H v hsm
    simp only [cM, eM] at bc be
    have k39 := fun H => call39 H v b.2 hsm (by omega) bnz
    simp only [wd_P] at k38 k39
    by_cases hz : v = 0
    · rw [decide_eq_true hz] at k38
      rw [if_pos hz] at hstep
      repeat' (first | refine w_seq ?_ | refine w_seqN ?_ | refine w_seqX ?_ | refine w_blk ?_ | refine w_blkX ?_ | refine w_skip ?_ | refine w_exit ?_ | refine w_ops ?_ | ((refine i_cond ?_); refine w_condT rfl ?_) | ((refine i_nil ?_); first | refine w_end8 rfl rfl rfl rfl rfl rfl rfl rfl ?_ | refine w_end9 rfl rfl rfl rfl rfl rfl rfl rfl rfl ?_ | refine w_end10 rfl rfl rfl rfl rfl rfl rfl rfl rfl rfl ?_) | ((refine i_cons ?_); first | refine k_idxA (esz := 2) rfl rfl (by omega) ?_ | refine k_ldD rfl rS ?_ | (refine k_call rfl (k38 h) ?_; rintro r' h2 ⟨e2, rfl⟩; have s2 := st.ext e2) | refine k_mv rfl ?_ | refine k_add rfl rfl (by omega) ?_ | refine k_lssT rfl rfl (by omega) ?_))
      exact w_roundN ⟨i + 1, r, s, by omega, hstep, s2, rfl⟩ (by simp [cK, Env.keep, Env.get]; omega)
    · rw [decide_eq_false hz] at k38
      rw [if_neg hz] at hstep
      have k27p := fun H (e : Ext h0 H) => call27 H false _ P.ts (hp.ext e)
      have k27q := fun H (e : Ext h0 H) => call27 H false _ Q.ts (hq.ext e)
      have k35 := fun H => call35 H (lo0 P.ts - lo0 Q.ts + i) 1048576 (by omega)
      obtain ⟨idq, offq, capq, eq, rq⟩ := hq.at (i := 0) (p := tmP b) (by rw [hqe]; rfl)
      rw [tms_len] at eq
      subst eq
      have rb := fun H (e : Ext h0 H) => readN_ext e (rd1 rq).2
      have hql1 : 0 < Q.ts.length := List.length_pos_iff.2 q0
      by_cases hok : quoOk v b.2
      · rw [if_pos hok, decide_eq_true hok] at k39
        by_cases hx : (lo0 P.ts - lo0 Q.ts + i).natAbs ≤ 1048576
        · rw [show decide ((lo0 P.ts - lo0 Q.ts + i).natAbs ≤ (1048576 : Int).toNat) = true from decide_eq_true hx] at k35
          rw [if_pos ⟨Int.emod_eq_zero_of_dvd hok.1, hok.2, hx⟩] at hstep
          have hcb := hok.2
          generalize hc : v / b.2 = c at *
          repeat' (first | refine w_seq ?_ | refine w_seqN ?_ | refine w_blk ?_ | refine w_skip ?_ | refine w_ops ?_ | refine w_opsD ?_ | refine d_one ?_ | refine d_nil ?_ | ((refine i_cond ?_); first | refine w_condT rfl ?_ | refine w_condF rfl ?_) | ((refine i_nil ?_); first | refine d_same ?_ | refine d_ord ?_ | refine d_ext (by assumption) ?_ | refine w_end9 rfl rfl rfl rfl rfl rfl rfl rfl rfl ?_ | refine w_end10 rfl rfl rfl rfl rfl rfl rfl rfl rfl rfl ?_ | refine w_end11 rfl rfl rfl rfl rfl rfl rfl rfl rfl rfl rfl ?_ | refine w_end12 rfl rfl rfl rfl rfl rfl rfl rfl rfl rfl rfl rfl ?_ | refine w_end13 rfl rfl rfl rfl rfl rfl rfl rfl rfl rfl rfl rfl rfl ?_) | ((refine i_cons ?_); first | refine k_idxA (esz := 2) rfl rfl (by omega) ?_ | refine k_ldD rfl rS ?_ | (refine k_call rfl (k38 h) ?_; rintro r' h2 ⟨e2, rfl⟩; have s2 := st.ext e2; have rS2 := readN_ext e2 rS) | refine k_ldD rfl rS2 ?_ | refine k_fldA rfl ?_ | refine k_ldC1 rfl s2.a.c3 ?_ | refine k_ld rfl (rb h2 s2.a.e) ?_ | (refine k_call rfl (k39 h2) ?_; rintro r' h3 ⟨e3, rfl⟩; have s3 := s2.ext e3) | refine k_ldC rfl s3.a.c2 ?_ | (refine k_call rfl (k27p h3 s3.a.e) ?_; rintro r' h4 ⟨e4, rfl⟩; have s4 := s3.ext e4) | refine k_ldC rfl s4.a.c3 ?_ | (refine k_call rfl (k27q h4 s4.a.e) ?_; rintro r' h5 ⟨e5, rfl⟩; have s5 := s4.ext e5) | (refine k_call rfl (k35 h5) ?_; rintro r' _ ⟨rfl, rfl⟩) | refine k_ldC1 rfl s5.cX ?_ | (refine k_bld rfl rfl ?_) | (refine k_pushD s5.a.e s5.os rfl rfl (by rw [tms_len]; simp only [bigN]; omega) ?_; intro s' h6 o6 e6 f6 l6; have cX6 := s5.cX.fram f6 (s5.os.cel s5.cX); have o6' : OwnD h0 h6 s' (tms (r ++ [(lo0 P.ts - lo0 Q.ts + i, c)])) := (by simpa [tms, tmP] using o6)) | (refine k_stC1 rfl rfl cX6 ?_; intro h7 w7; have s7 := s5.push o6' e6 f6 w7 l10) | refine k_ldC1 rfl s7.a.c3 ?_ | refine k_len rfl lq ?_ | refine k_want rfl ?_ | refine k_mv rfl ?_ | refine k_pickF rfl rfl ?_ | refine k_notT rfl ?_ | refine k_add rfl rfl (by omega) ?_ | refine k_sub rfl rfl (by omega) ?_ | refine k_lssT rfl rfl (by omega) ?_ | refine k_ok rfl rfl ?_))
          have hst : smL (fun e => cf P.ts e - mc r Q.ts e) (lo0 P.ts) N = smL (fun e => (fun e => cf P.ts e - mc r Q.ts e) e - mc [(lo0 P.ts - lo0 Q.ts + i, c)] (Q.ts.take 0) e) (lo0 P.ts) N := smL_congr fun e => by simp only [List.take_zero, mc_nilr]; omega
          rw [hst] at s7
          refine w_loop (I13c h0 q2 q3 q4 q10 sp _ _ s' (fun e => cf P.ts e - mc r Q.ts e) (lo0 P.ts) Q.ts (r ++ [(lo0 P.ts - lo0 Q.ts + i, c)]) N i c Ln) (cK [2, 3, 4, 6, 7, 10, 11, 12, 93, 94, 139, 140, 141] Q.ts.length 141) (R13c h0 q2 q3 q4 q10 sp _ _ s' (fun e => cf P.ts e - mc r Q.ts e) (lo0 P.ts) Q.ts (r ++ [(lo0 P.ts - lo0 Q.ts + i, c)]) N i c Ln) ⟨0, Nat.zero_le _, s7, rfl⟩ (round13c h0 q2 q3 q4 q10 sp _ _ s' (fun e => cf P.ts e - mc r Q.ts e) (lo0 P.ts) Q.ts (r ++ [(lo0 P.ts - lo0 Q.ts + i, c)]) N i c Ln hq kq.can (fun t ht => ⟨kq.cf t ht, kq.ex t ht⟩) ql (fun u hu => by have := hi0_ge kq.can u hu; omega) (by omega) hcb (by simp only [eM]; omega)) ?_
          rintro ex E' h8 ⟨rfl, _, _, _, _, _, _, st8, rfl⟩
          repeat' (first | refine w_seqN ?_ | refine w_blkN ?_ | refine w_blkX ?_ | refine w_ops ?_ | ((refine i_nil ?_); refine w_end8 rfl rfl rfl rfl rfl rfl rfl rfl ?_) | ((refine i_cons ?_); first | refine k_mv rfl ?_ | refine k_add rfl rfl (by omega) ?_))
          have hst8 : smL (fun e => (fun e => cf P.ts e - mc r Q.ts e) e - mc [(lo0 P.ts - lo0 Q.ts + i, c)] Q.ts e) (lo0 P.ts) N = smL (fun e => cf P.ts e - mc (r ++ [(lo0 P.ts - lo0 Q.ts + i, c)]) Q.ts e) (lo0 P.ts) N := smL_congr fun e => by simp only [mc_app]; omega
          rw [hst8] at st8
          exact w_roundN ⟨i + 1, _, s', by omega, hstep, st8, rfl⟩ (by simp [cK, Env.keep, Env.get]; omega)
        · rw [show decide ((lo0 P.ts - lo0 Q.ts + i).natAbs ≤ (1048576 : Int).toNat) = false from decide_eq_false hx] at k35
          rw [if_neg (fun h => hx h.2.2)] at hstep
          generalize hc : v / b.2 = c at *
          repeat' (first | refine w_seq ?_ | refine w_seqN ?_ | refine w_seqR ?_ | refine w_blk ?_ | refine w_blkR ?_ | refine w_skip ?_ | refine w_ret ?_ | refine w_ops ?_ | refine w_opsD ?_ | refine d_one ?_ | refine d_nil ?_ | ((refine i_cond ?_); first | refine w_condT rfl ?_ | refine w_condF rfl ?_) | ((refine i_nil ?_); first | refine d_same ?_ | refine d_ord ?_ | refine d_ext (by assumption) ?_ | refine w_end2 rfl rfl ?_ | refine w_end9 rfl rfl rfl rfl rfl rfl rfl rfl rfl ?_ | refine w_end10 rfl rfl rfl rfl rfl rfl rfl rfl rfl rfl ?_ | refine w_end11 rfl rfl rfl rfl rfl rfl rfl rfl rfl rfl rfl ?_ | refine w_end12 rfl rfl rfl rfl rfl rfl rfl rfl rfl rfl rfl rfl ?_) | ((refine i_cons ?_); first | refine k_idxA (esz := 2) rfl rfl (by omega) ?_ | refine k_ldD rfl rS ?_ | (refine k_call rfl (k38 h) ?_; rintro r' h2 ⟨e2, rfl⟩; have s2 := st.ext e2; have rS2 := readN_ext e2 rS) | refine k_ldD rfl rS2 ?_ | refine k_fldA rfl ?_ | refine k_ldC1 rfl s2.a.c3 ?_ | refine k_ld rfl (rb h2 s2.a.e) ?_ | (refine k_call rfl (k39 h2) ?_; rintro r' h3 ⟨e3, rfl⟩; have s3 := s2.ext e3) | refine k_ldC rfl s3.a.c2 ?_ | (refine k_call rfl (k27p h3 s3.a.e) ?_; rintro r' h4 ⟨e4, rfl⟩; have s4 := s3.ext e4) | refine k_ldC rfl s4.a.c3 ?_ | (refine k_call rfl (k27q h4 s4.a.e) ?_; rintro r' h5 ⟨e5, rfl⟩; have s5 := s4.ext e5) | (refine k_call rfl (k35 h5) ?_; rintro r' _ ⟨rfl, rfl⟩; have d4 := s5.a.c4) | (refine k_bld rfl rfl ?_) | (refine k_stC rfl rfl d4 ?_; intro h6 w6) | refine k_want rfl ?_ | refine k_mv rfl ?_ | refine k_pickF rfl rfl ?_ | refine k_notT rfl ?_ | refine k_notF rfl ?_ | refine k_add rfl rfl (by omega) ?_ | refine k_sub rfl rfl (by omega) ?_ | refine k_lssT rfl rfl (by omega) ?_ | refine k_ok rfl rfl ?_))
          exact w_roundR (.inr ⟨rfl, dvL_none hstep (by omega), w6.ext s5.a.e l4, w6.cel, rfl⟩)
      · rw [if_neg hok, decide_eq_false hok] at k39
        rw [if_neg (fun h => hok ⟨Int.dvd_of_emod_eq_zero h.1, h.2.1⟩)] at hstep
        repeat' (first | refine w_seq ?_ | refine w_seqN ?_ | refine w_seqR ?_ | refine w_blk ?_ | refine w_blkR ?_ | refine w_skip ?_ | refine w_ret ?_ | refine w_ops ?_ | refine w_opsD ?_ | refine d_one ?_ | refine d_nil ?_ | ((refine i_cond ?_); first | refine w_condT rfl ?_ | refine w_condF rfl ?_) | ((refine i_nil ?_); first | refine d_same ?_ | refine d_ord ?_ | refine d_ext (by assumption) ?_ | refine w_end2 rfl rfl ?_ | refine w_end9 rfl rfl rfl rfl rfl rfl rfl rfl rfl ?_ | refine w_end10 rfl rfl rfl rfl rfl rfl rfl rfl rfl rfl ?_ | refine w_end11 rfl rfl rfl rfl rfl rfl rfl rfl rfl rfl rfl ?_ | refine w_end12 rfl rfl rfl rfl rfl rfl rfl rfl rfl rfl rfl rfl ?_) | ((refine i_cons ?_); first | refine k_idxA (esz := 2) rfl rfl (by omega) ?_ | refine k_ldD rfl rS ?_ | (refine k_call rfl (k38 h) ?_; rintro r' h2 ⟨e2, rfl⟩; have s2 := st.ext e2; have rS2 := readN_ext e2 rS) | refine k_ldD rfl rS2 ?_ | refine k_fldA rfl ?_ | refine k_ldC1 rfl s2.a.c3 ?_ | refine k_ld rfl (rb h2 s2.a.e) ?_ | (refine k_call rfl (k39 h2) ?_; rintro r' h3 ⟨e3, rfl⟩; have s3 := s2.ext e3) | refine k_ldC rfl s3.a.c2 ?_ | (refine k_call rfl (k27p h3 s3.a.e) ?_; rintro r' h4 ⟨e4, rfl⟩; have s4 := s3.ext e4) | refine k_ldC rfl s4.a.c3 ?_ | (refine k_call rfl (k27q h4 s4.a.e) ?_; rintro r' h5 ⟨e5, rfl⟩; have s5 := s4.ext e5) | (refine k_bld rfl rfl ?_) | (have d4 := s5.a.c4; refine k_stC rfl rfl d4 ?_; intro h6 w6) | refine k_skip rfl ?_ | refine k_mv rfl ?_ | refine k_pickT rfl rfl ?_ | refine k_notF rfl ?_ | refine k_add rfl rfl (by omega) ?_ | refine k_sub rfl rfl (by omega) ?_ | refine k_lssT rfl rfl (by omega) ?_ | refine k_ok rfl rfl ?_))
        exact w_roundR (.inr ⟨rfl, dvL_none hstep (by omega), w6.ext s5.a.e l4, w6.cel, rfl⟩)
  · have : i = Ln + 1 := by omega
    subst this
    repeat' (first | refine w_seq ?_ | refine w_seqN ?_ | refine w_seqX ?_ | refine w_exit ?_ | refine w_ops ?_ | ((refine i_cond ?_); refine w_condF rfl ?_) | ((refine i_nil ?_); refine w_end9 rfl rfl rfl rfl rfl rfl rfl rfl rfl ?_) | ((refine i_cons ?_); refine k_lssF rfl rfl (by omega) ?_))
    exact w_roundX (.inl ⟨rfl, r, s, _, _, _, hdv, st, rfl⟩)
end Go.Proofs.YtlnjddjobbhcaaaDoor
