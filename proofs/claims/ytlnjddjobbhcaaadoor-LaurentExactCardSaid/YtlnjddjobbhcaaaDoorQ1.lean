/- Division by one term: contract. -/
import Derived.Test.YtlnjddjobbhcaaaDoorO1
namespace Go.Proofs.YtlnjddjobbhcaaaDoor
open Go.Ab
set_option linter.unusedVariables false
set_option linter.unusedSimpArgs false
set_option maxRecDepth 20000
set_option maxHeartbeats 4000000
attribute [local irreducible] wOps wA wSeq wBlk wRound wRoundI wOpsD wOpsS

/-- A polynomial and an error. -/
def IsPE (h : Heap) (v : AV) (p : Pol) (e : Int) : Prop := ∃ s, v = .tup [.agg [.bool p.big, s], .sc (.int .i64 e)] ∧ IsD h s (tms p.ts)
theorem IsPE.ext {h h' : Heap} {v : AV} {p : Pol} {e : Int} (i : IsPE h v p e) (x : Ext h h') : IsPE h' v p e := by
  obtain ⟨s, h1, h2⟩ := i
  exact ⟨s, h1, h2.ext x⟩
def dvT (b t : Tm) : Tm := (t.1 - b.1, t.2 / b.2)
def dvOk (b t : Tm) : Prop := b.2 ∣ t.2 ∧ (t.1 - b.1).natAbs ≤ eM
open Classical in
noncomputable def divP (p : List Tm) (b : Tm) : Pol × Int := if ∀ t ∈ p, dvOk b t then (⟨false, p.map (dvT b)⟩, 0) else (zeroP, 10)
structure St36 (h0 h : Heap) (q3 q4 q6 : Nat) (b : Tm) (s : SV) (r : List Tm) : Prop where
  e : Ext h0 h
  c3 : Cel h q3 (.int .i64 b.1) (.int .i64 b.2)
  c4 : Cel h q4 (.bool false) .nilS
  c6 : Cel h q6 (.bool false) s
  o : OwnD h0 h s (tms r)
theorem St36.ext {h0 h h' : Heap} {q3 q4 q6 : Nat} {b : Tm} {s : SV} {r : List Tm} (st : St36 h0 h q3 q4 q6 b s r) (he : Ext h h') : St36 h0 h' q3 q4 q6 b s r :=
  ⟨st.e.trans he, st.c3.ext he, st.c4.ext he, st.c6.ext he, st.o.ext he⟩
def I36 (h0 : Heap) (q3 q4 q6 : Nat) (sp : SV) (p : List Tm) (b : Tm) (E : Env) (h : Heap) : Prop := ∃ (i : Nat) (s : SV), i ≤ p.length ∧ (∀ t ∈ p.take i, dvOk b t) ∧ St36 h0 h q3 q4 q6 b s ((p.take i).map (dvT b)) ∧
  E.keep [3, 4, 6, 16, 17, 18] = [(3, some (.sc (.ptr q3 0))), (4, some (.sc (.ptr q4 0))), (6, some (.sc (.ptr q6 0))), (16, some (.sc sp)), (17, some (.sc (.int .i64 (p.length : Nat)))), (18, some (.sc (.int .i64 (i : Nat))))]
def R36 (h0 : Heap) (q3 q4 q6 : Nat) (p : List Tm) (b : Tm) (ex : Ex) (E : Env) (h : Heap) : Prop :=
  (ex = .ex 0 ∧ ∃ s a3 a b' c d, (∀ t ∈ p, dvOk b t) ∧ St36 h0 h q3 q4 q6 b s (p.map (dvT b)) ∧ E = [(3, a3), (4, some (.sc (.ptr q4 0))), (6, some (.sc (.ptr q6 0))), (16, a), (17, b'), (18, c), (19, d)]) ∨
  (ex = .rt ∧ ¬ (∀ t ∈ p, dvOk b t) ∧ Ext h0 h ∧ Cel h q4 (.bool false) .nilS ∧ E = [(4, some (.sc (.ptr q4 0))), (5, some (.sc (.int .i64 10)))])
theorem round36 (h0 : Heap) (q3 q4 q6 : Nat) (sp : SV) (p : List Tm) (b : Tm) (hp : IsD h0 sp (tms p)) (fp : ∀ t ∈ p, t.2.natAbs ≤ cM ∧ t.1.natAbs ≤ eM) (pl : p.length ≤ 2097153) (hb : b.2 ≠ 0 ∧ b.2.natAbs ≤ cM ∧ b.1.natAbs ≤ eM) (l3 : h0.length ≤ q3) (l4 : h0.length ≤ q4) (l6 : h0.length ≤ q6) (n36 : q3 ≠ q6) (n46 : q4 ≠ q6) (E : Env) (h : Heap) (hI : I36 h0 q3 q4 q6 sp p b E h) :
    wA FT HKt b36L0 (E.keep [3, 4, 6, 16, 17, 18]) h (wRound (I36 h0 q3 q4 q6 sp p b) (cK [3, 4, 6, 16, 17, 18] p.length 18) (cK [3, 4, 6, 16, 17, 18] p.length 18 E h) (R36 h0 q3 q4 q6 p b)) := by
  obtain ⟨i, s, hi, hok, st, hE⟩ := hI
  have hm : cK [3, 4, 6, 16, 17, 18] p.length 18 E h = p.length - i := by unfold cK; rw [hE]; rfl
  rw [hm, hE]
  by_cases hlt : i < p.length
  · obtain ⟨t, ht⟩ : ∃ t, p[i]? = some t := ⟨_, List.getElem?_eq_getElem hlt⟩
    have htm := List.mem_of_getElem? ht
    obtain ⟨tc, te⟩ := fp t htm
    obtain ⟨bz, bc, be⟩ := hb
    obtain ⟨id, off, cap, e1, r0⟩ := hp.at (i := i) (p := tmP t) (by simp [ht])
    rw [tms_len] at e1
    subst e1
    have r1 := readN_ext st.e r0
    simp only [cM, eM] at tc te bc be
    have k35 := fun H => call35 H (t.1 - b.1) 1048576 (by omega)
    have tk : p.take (i + 1) = p.take i ++ [t] := by rw [List.take_add_one, ht]; rfl
    have l1 : ((p.take i).map (dvT b)).length = i := by simp; omega
    by_cases hd : b.2 ∣ t.2
    · have hz : t.2.tmod b.2 = 0 := Int.tmod_eq_zero_of_dvd hd
      have hq : t.2.tdiv b.2 = t.2 / b.2 := Int.tdiv_eq_ediv_of_dvd hd
      have hqb : (t.2 / b.2).natAbs ≤ t.2.natAbs := by rw [← hq, Int.natAbs_tdiv]; exact Nat.div_le_self _ _
      by_cases hw : (t.1 - b.1).natAbs ≤ 1048576
      · rw [show decide ((t.1 - b.1).natAbs ≤ (1048576 : Int).toNat) = true from decide_eq_true hw] at k35
        repeat' (first | refine w_seq ?_ | refine w_seqN ?_ | refine w_blk ?_ | refine w_blkN ?_ | refine w_skip ?_ | refine w_ops ?_ | refine w_opsD ?_ | refine d_one ?_ | refine d_nil ?_ | ((refine i_cond ?_); first | refine w_condT rfl ?_ | refine w_condF rfl ?_) | ((refine i_nil ?_); first | refine d_same ?_ | refine d_ord ?_ | refine d_ext (by assumption) ?_ | refine w_end6 rfl rfl rfl rfl rfl rfl ?_ | refine w_end7 rfl rfl rfl rfl rfl rfl rfl ?_ | refine w_end8 rfl rfl rfl rfl rfl rfl rfl rfl ?_ | refine w_end9 rfl rfl rfl rfl rfl rfl rfl rfl rfl ?_) | ((refine i_cons ?_); first | refine k_idxA (esz := 2) rfl rfl (by omega) ?_ | refine k_ldD rfl r1 ?_ | (refine k_newst rfl ?_; intro h2 e2 c2; have s2 := st.ext e2; have lt8 := s2.c6.lt) | refine k_fldA rfl ?_ | refine k_ldC0 rfl c2 ?_ | refine k_ldC1 rfl c2 ?_ | refine k_ldC0 rfl s2.c3 ?_ | refine k_ldC1 rfl s2.c3 ?_ | (refine k_tmod rfl rfl bz ?_; rw [hz]) | (refine k_call rfl (k35 _) ?_; rintro r _ ⟨rfl, rfl⟩) | refine k_ldC1 rfl s2.c6 ?_ | (refine k_tdiv rfl rfl (by omega) ?_; rw [hq]) | (refine k_bld rfl rfl ?_) | (refine k_bslD rfl ?_; intro h3 e3 src3; have s3 := s2.ext e3) | (refine k_appD1 s3.e s3.o rfl rfl src3 (by rw [tms_len, l1]; simp only [bigN]; omega) ?_; intro s' h5 o5 e5 f5 l5; have d6 := s3.c6.fram f5 (s3.o.cel s3.c6)) | (refine k_stC1 rfl rfl d6 ?_; intro h6 w6) | refine k_want rfl ?_ | refine k_mv rfl ?_ | refine k_pickF rfl rfl ?_ | refine k_notT rfl ?_ | refine k_add rfl rfl (by omega) ?_ | refine k_sub rfl rfl (by omega) ?_ | refine k_lssT rfl rfl (by omega) ?_ | refine k_neqF rfl rfl (by omega) ?_))
        have d3 := s3.c3.fram f5 (s3.o.cel s3.c3)
        have d4 := s3.c4.fram f5 (s3.o.cel s3.c4)
        refine w_roundN ⟨i + 1, s', by omega, ?_, ⟨w6.ext e5 l6, w6.keep d3 n36, w6.keep d4 n46, w6.cel, ?_⟩, rfl⟩ (by simp [cK, Env.keep, Env.get]; omega)
        · rw [tk]
          intro u hu
          rcases List.mem_append.1 hu with hu | hu
          · exact hok u hu
          · rw [List.mem_singleton.1 hu]; exact ⟨hd, by simpa [eM] using hw⟩
        · rw [tk]
          have := o5.wrC w6
          simpa [tms, tmP, dvT] using this
      · rw [show decide ((t.1 - b.1).natAbs ≤ (1048576 : Int).toNat) = false from decide_eq_false hw] at k35
        repeat' (first | refine w_seq ?_ | refine w_seqN ?_ | refine w_seqR ?_ | refine w_blk ?_ | refine w_blkR ?_ | refine w_skip ?_ | refine w_ret ?_ | refine w_ops ?_ | ((refine i_cond ?_); refine w_condT rfl ?_) | ((refine i_nil ?_); first | refine w_end2 rfl rfl ?_ | refine w_end7 rfl rfl rfl rfl rfl rfl rfl ?_ | refine w_end8 rfl rfl rfl rfl rfl rfl rfl rfl ?_ | refine w_end9 rfl rfl rfl rfl rfl rfl rfl rfl rfl ?_) | ((refine i_cons ?_); first | refine k_idxA (esz := 2) rfl rfl (by omega) ?_ | refine k_ldD rfl r1 ?_ | (refine k_newst rfl ?_; intro h2 e2 c2; have s2 := st.ext e2; have lt8 := s2.c6.lt) | refine k_fldA rfl ?_ | refine k_ldC0 rfl c2 ?_ | refine k_ldC1 rfl c2 ?_ | refine k_ldC0 rfl s2.c3 ?_ | refine k_ldC1 rfl s2.c3 ?_ | (refine k_tmod rfl rfl bz ?_; rw [hz]) | (refine k_call rfl (k35 _) ?_; rintro r _ ⟨rfl, rfl⟩) | (refine k_bld rfl rfl ?_) | (have c4 := s2.c4; refine k_stC rfl rfl c4 ?_; intro h6 w6) | refine k_want rfl ?_ | refine k_mv rfl ?_ | refine k_pickF rfl rfl ?_ | refine k_notF rfl ?_ | refine k_sub rfl rfl (by omega) ?_ | refine k_lssT rfl rfl (by omega) ?_ | refine k_neqF rfl rfl (by omega) ?_))
        exact w_roundR (.inr ⟨rfl, fun h => hw (by have := (h t htm).2; simpa [eM] using this), w6.ext s2.e l4, w6.cel, rfl⟩)
    · have hz : t.2.tmod b.2 ≠ 0 := fun h => hd (Int.dvd_of_tmod_eq_zero h)
      generalize hmm : t.2.tmod b.2 = mm at *
      repeat' (first | refine w_seq ?_ | refine w_seqN ?_ | refine w_seqR ?_ | refine w_blk ?_ | refine w_blkR ?_ | refine w_skip ?_ | refine w_ret ?_ | refine w_ops ?_ | ((refine i_cond ?_); refine w_condT rfl ?_) | ((refine i_nil ?_); first | refine w_end2 rfl rfl ?_ | refine w_end7 rfl rfl rfl rfl rfl rfl rfl ?_ | refine w_end8 rfl rfl rfl rfl rfl rfl rfl rfl ?_ | refine w_end9 rfl rfl rfl rfl rfl rfl rfl rfl rfl ?_) | ((refine i_cons ?_); first | refine k_idxA (esz := 2) rfl rfl (by omega) ?_ | refine k_ldD rfl r1 ?_ | (refine k_newst rfl ?_; intro h2 e2 c2; have s2 := st.ext e2; have lt8 := s2.c6.lt) | refine k_fldA rfl ?_ | refine k_ldC0 rfl c2 ?_ | refine k_ldC1 rfl c2 ?_ | refine k_ldC0 rfl s2.c3 ?_ | refine k_ldC1 rfl s2.c3 ?_ | (refine k_tmod rfl rfl bz ?_; rw [hmm]) | (refine k_bld rfl rfl ?_) | (have c4 := s2.c4; refine k_stC rfl rfl c4 ?_; intro h6 w6) | refine k_skip rfl ?_ | refine k_mv rfl ?_ | refine k_pickT rfl rfl ?_ | refine k_sub rfl rfl (by omega) ?_ | refine k_lssT rfl rfl (by omega) ?_ | refine k_neqT rfl rfl (by omega) ?_))
      exact w_roundR (.inr ⟨rfl, fun h => hd (h t htm).1, w6.ext s2.e l4, w6.cel, rfl⟩)
  · have : i = p.length := by omega
    subst this
    rw [List.take_length] at st hok
    repeat' (first | refine w_seq ?_ | refine w_seqN ?_ | refine w_seqX ?_ | refine w_exit ?_ | refine w_ops ?_ | ((refine i_cond ?_); refine w_condF rfl ?_) | ((refine i_nil ?_); refine w_end7 rfl rfl rfl rfl rfl rfl rfl ?_) | ((refine i_cons ?_); refine k_lssF rfl rfl (by omega) ?_))
    exact w_roundX (.inl ⟨rfl, s, _, _, _, _, _, hok, st, rfl⟩)
theorem call36 (h0 : Heap) (sp : SV) (bp : Bool) (p : List Tm) (b : Tm) (hp : IsD h0 sp (tms p)) (fp : ∀ t ∈ p, t.2.natAbs ≤ cM ∧ t.1.natAbs ≤ eM) (pl : p.length ≤ 2097153) (hb : b.2 ≠ 0 ∧ b.2.natAbs ≤ cM ∧ b.1.natAbs ≤ eM) :
    ∃ r h', Cal FT HKt 36 [.agg [.bool bp, sp], .agg [.int .i64 b.1, .int .i64 b.2]] h0 r h' ∧ Ext h0 h' ∧ IsPE h' r (divP p b).1 (divP p b).2 := by
  refine Cal.of (F := a36) rfl rfl rfl ?_
  have lp := hp.len
  rw [tms_len] at lp
  repeat' (first | refine w_seq ?_ | refine w_seqN ?_ | refine w_blk ?_ | refine w_ops ?_ | ((refine i_nil ?_); first | refine w_end3 rfl rfl rfl ?_ | refine w_end4 rfl rfl rfl rfl ?_ | refine w_end6 rfl rfl rfl rfl rfl rfl ?_) | ((refine i_cons ?_); first | (have z := xB; refine k_newst rfl ?_; intro h6 e6 c6; have oC := oB.ext e6; have d2_6 := d2_B.ext e6; have d3_6 := d3_B.ext e6; have d4_6 := d4_B.ext e6; have x6 := xB.trans e6; have l6 : h0.length ≤ hB.length := xB.len) | (have z := e3; refine k_newC ?_; intro h4 e4 c4; have d3 := c3.ext e4; have d2 := (c2.ext e3).ext e4; have x4 := e2.trans (e3.trans e4); have n4 := c4.lt; have n3 := c3.lt; have l3 := e2.len; have l4 := (e2.trans e3).len) | (have z := e2; refine k_boxC rfl ?_; intro h3 e3 c3) | (refine k_boxC rfl ?_; intro h2 e2 c2) | refine k_ldC1 rfl d2 ?_ | refine k_ldC1 rfl d2_6 ?_ | refine k_len rfl lp ?_ | (refine k_mkD x4 rfl rfl (by simp only [bigN]; omega) ?_; intro S hB oB eB xB lB; have d2_B := d2.ext eB; have d3_B := d3.ext eB; have d4_B := c4.ext eB) | (refine k_bld rfl rfl ?_) | refine k_mv rfl ?_ | refine k_ok rfl rfl ?_))
  refine w_loop (I36 h0 h2.length h3.length hB.length sp p b) (cK [3, 4, 6, 16, 17, 18] p.length 18) (R36 h0 h2.length h3.length hB.length p b) ⟨0, S, Nat.zero_le _, by simp, ⟨x6, d3_6, d4_6, c6, oC.weaken x4.len⟩, rfl⟩ (round36 h0 h2.length h3.length hB.length sp p b hp fp pl hb l3 l4 l6 (by omega) (by omega)) ?_
  rintro ex E' h7 (⟨rfl, s, _, _, _, _, _, hall, st, rfl⟩ | ⟨rfl, hns, e7, c7, rfl⟩)
  · have c4 := st.c4
    repeat' (first | refine w_seq ?_ | refine w_seqN ?_ | refine w_blkX ?_ | refine w_ret ?_ | refine w_ops ?_ | ((refine i_nil ?_); refine w_end2 rfl rfl ?_) | ((refine i_cons ?_); first | refine k_ldC rfl st.c6 ?_ | (refine k_stC rfl rfl c4 ?_; intro h8 w8) | refine k_mv rfl ?_))
    refine ⟨.inr rfl, oK_cellt rfl w8.cel.read rfl ⟨w8.ext st.e l4, ?_⟩⟩
    unfold divP
    rw [if_pos hall]
    exact ⟨s, rfl, (st.o.wrC w8).is⟩
  · repeat' (first | refine w_seqR ?_ | refine w_blkR ?_)
    refine ⟨.inr rfl, oK_cellt rfl c7.read rfl ⟨e7, ?_⟩⟩
    unfold divP
    rw [if_neg hns]
    exact ⟨.nilS, rfl, IsD.nil _⟩
end Go.Proofs.YtlnjddjobbhcaaaDoor
