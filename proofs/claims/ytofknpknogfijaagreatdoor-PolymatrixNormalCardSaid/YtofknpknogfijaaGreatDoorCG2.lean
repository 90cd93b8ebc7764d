/- Sums, differences, negatives: the loop, combine. -/
import Derived.Test.YtofknpknogfijaaGreatDoorCG1
import Derived.Test.YtofknpknogfijaaGreatDoorLS1
namespace Go.Proofs.YtofknpknogfijaaGreatDoor
open Go.Ab
set_option linter.unusedVariables false
set_option linter.unusedSimpArgs false
set_option maxRecDepth 20000
set_option maxHeartbeats 8000000
attribute [local irreducible] wOps wA wSeq wBlk wRound wRoundI wOpsD wOpsS
set_option linter.unusedSectionVars false
variable [HB]

theorem round51g {w : Int → Int → Int} {gf : FuncId} (kw : Wop gf w) (h0 : Heap) (q3 q4 q5 q6 q7 q8 : Nat) (sp sq : SV) (p q : List Tm) (hp : IsD h0 sp (tms p)) (hq : IsD h0 sq (tms q)) (fp : ∀ t ∈ p, t.2.natAbs ≤ cM ∧ t.1.natAbs ≤ eM) (fq : ∀ t ∈ q, t.2.natAbs ≤ cM ∧ t.1.natAbs ≤ eM) (pl : p.length ≤ 2097153) (ql : q.length ≤ 2097153) (E : Env) (h : Heap) (hI : J53 w gf h0 q3 q4 q5 q6 q7 q8 sp sq p q E h) :
    wA FT HKt b51L0 (E.keep [3, 4, 6, 7, 8, 9, 10, 11]) h (wRound (J53 w gf h0 q3 q4 q5 q6 q7 q8 sp sq p q) (qC p q) (qC p q E h) (S53 w gf h0 q3 q4 q5 q6 q7 q8 sp sq p q)) := by
  obtain ⟨i, j, s, F, r, hi, hj, u, g, hE⟩ := hI
  have hm : qC p q E h = p.length + q.length - (i + j) := by unfold qC; rw [hE]; show p.length + q.length - ((i : Int) + (j : Int)).toNat = _; omega
  rw [hm, hE]
  have lp := hp.len
  have lq := hq.len
  rw [tms_len] at lp lq
  have gl := g.ln
  have rl : r.length ≤ 5000000 := by omega
  have z0 : (0 : Int).natAbs ≤ cM := by simp
  have fin : ∀ i' j' : Nat, i + j < i' + j' → i' ≤ p.length → j' ≤ q.length → p.length + q.length - (i' + j') < p.length + q.length - (i + j) := fun i' j' a b c => by omega
  by_cases hip : i < p.length
  · obtain ⟨t, ht⟩ : ∃ t, p[i]? = some t := ⟨_, List.getElem?_eq_getElem hip⟩
    obtain ⟨tc, te⟩ := fp t (List.mem_of_getElem? ht)
    obtain ⟨id1, off1, cap1, e1, r1⟩ := hp.at (i := i) (p := tmP t) (by simp [ht])
    rw [tms_len] at e1
    subst e1
    have rp := readN_ext u.e r1
    obtain ⟨rp1, rp2⟩ := rd1 rp
    by_cases hjq : j < q.length
    · obtain ⟨v, hv⟩ : ∃ v, q[j]? = some v := ⟨_, List.getElem?_eq_getElem hjq⟩
      obtain ⟨vc, ve⟩ := fq v (List.mem_of_getElem? hv)
      obtain ⟨id2, off2, cap2, e2, r2⟩ := hq.at (i := j) (p := tmP v) (by simp [hv])
      rw [tms_len] at e2
      subst e2
      have rq := readN_ext u.e r2
      obtain ⟨rq1, rq2⟩ := rd1 rq
      by_cases hlt : t.1 < v.1
      · have g2 := g.step (i' := i + 1) (j' := j) (by rw [drop_cons' ht, drop_cons' hv]; exact mG_lt hlt) (by omega)
        have k82 := call83g kw h0 h q3 q4 q5 q6 q7 q8 _ _ s F r t.1 t.2 0 u tc z0 rl
        repeat' (first | refine w_seq ?_ | refine w_seqN ?_ | refine w_blk ?_ | refine w_blkN ?_ | refine w_skip ?_ | refine w_ops ?_ | refine w_opsD ?_ | refine d_one ?_ | refine d_nil ?_ | ((refine i_cond ?_); refine w_condT rfl ?_) | ((refine i_nil ?_); first | refine d_same ?_ | refine d_ord ?_ | refine w_end8 rfl rfl rfl rfl rfl rfl rfl rfl ?_ | refine w_end9 rfl rfl rfl rfl rfl rfl rfl rfl rfl ?_) | ((refine i_cons ?_); first | refine k_fldA rfl ?_ | refine k_ldC1 rfl u.c3 ?_ | refine k_ldC1 rfl u.c4 ?_ | refine k_len rfl lp ?_ | refine k_len rfl lq ?_ | refine k_idxA (esz := 2) rfl rfl (by omega) ?_ | refine k_ld rfl rp1 ?_ | refine k_ld rfl rp2 ?_ | refine k_ld rfl rq1 ?_ | (refine k_callvC rfl rfl k82 ?_; rintro w h2 ⟨s', u2⟩) | refine k_skip rfl ?_ | refine k_want rfl ?_ | refine k_mv rfl ?_ | refine k_pickT rfl rfl ?_ | refine k_pickF rfl rfl ?_ | refine k_add rfl rfl (by omega) ?_ | refine k_lssT rfl rfl (by omega) ?_ | refine k_eqlF rfl rfl (by omega) ?_))
        exact w_roundN ⟨i + 1, j, s', _, _, by omega, hj, u2, g2, rfl⟩ (by unfold qC; show p.length + q.length - (((i : Nat) : Int) + 1 + (j : Int)).toNat < _; omega)
      · by_cases hgt : v.1 < t.1
        · have g2 := g.step (i' := i) (j' := j + 1) (by rw [drop_cons' ht, drop_cons' hv]; exact mG_gt hgt) (by omega)
          have k82 := call83g kw h0 h q3 q4 q5 q6 q7 q8 _ _ s F r v.1 0 v.2 u z0 vc rl
          repeat' (first | refine w_seq ?_ | refine w_seqN ?_ | refine w_blk ?_ | refine w_blkN ?_ | refine w_skip ?_ | refine w_ops ?_ | refine w_opsD ?_ | refine d_one ?_ | refine d_nil ?_ | ((refine i_cond ?_); first | refine w_condT rfl ?_ | refine w_condF rfl ?_) | ((refine i_nil ?_); first | refine d_same ?_ | refine d_ord ?_ | refine w_end8 rfl rfl rfl rfl rfl rfl rfl rfl ?_ | refine w_end9 rfl rfl rfl rfl rfl rfl rfl rfl rfl ?_) | ((refine i_cons ?_); first | refine k_fldA rfl ?_ | refine k_ldC1 rfl u.c3 ?_ | refine k_ldC1 rfl u.c4 ?_ | refine k_len rfl lp ?_ | refine k_len rfl lq ?_ | refine k_idxA (esz := 2) rfl rfl (by omega) ?_ | refine k_ld rfl rp1 ?_ | refine k_ld rfl rq1 ?_ | refine k_ld rfl rq2 ?_ | (refine k_callvC rfl rfl k82 ?_; rintro w h2 ⟨s', u2⟩) | refine k_skip rfl ?_ | refine k_want rfl ?_ | refine k_mv rfl ?_ | refine k_pickT rfl rfl ?_ | refine k_pickF rfl rfl ?_ | refine k_add rfl rfl (by omega) ?_ | refine k_lssT rfl rfl (by omega) ?_ | refine k_lssF rfl rfl (by omega) ?_ | refine k_eqlF rfl rfl (by omega) ?_))
          exact w_roundN ⟨i, j + 1, s', _, _, hi, by omega, u2, g2, rfl⟩ (by unfold qC; show p.length + q.length - ((i : Int) + (((j : Nat) : Int) + 1)).toNat < _; omega)
        · have heq : t.1 = v.1 := by omega
          have g2 := g.step (i' := i + 1) (j' := j + 1) (by rw [drop_cons' ht, drop_cons' hv]; exact mG_eq heq) (by omega)
          have k82 := call83g kw h0 h q3 q4 q5 q6 q7 q8 _ _ s F r t.1 t.2 v.2 u tc vc rl
          repeat' (first | refine w_seq ?_ | refine w_seqN ?_ | refine w_blk ?_ | refine w_blkN ?_ | refine w_skip ?_ | refine w_ops ?_ | refine w_opsD ?_ | refine d_one ?_ | refine d_nil ?_ | ((refine i_cond ?_); first | refine w_condT rfl ?_ | refine w_condF rfl ?_) | ((refine i_nil ?_); first | refine d_same ?_ | refine d_ord ?_ | refine w_end8 rfl rfl rfl rfl rfl rfl rfl rfl ?_ | refine w_end9 rfl rfl rfl rfl rfl rfl rfl rfl rfl ?_) | ((refine i_cons ?_); first | refine k_fldA rfl ?_ | refine k_ldC1 rfl u.c3 ?_ | refine k_ldC1 rfl u.c4 ?_ | refine k_len rfl lp ?_ | refine k_len rfl lq ?_ | refine k_idxA (esz := 2) rfl rfl (by omega) ?_ | refine k_ld rfl rp1 ?_ | refine k_ld rfl rp2 ?_ | refine k_ld rfl rq1 ?_ | refine k_ld rfl rq2 ?_ | (refine k_callvC rfl rfl k82 ?_; rintro w h2 ⟨s', u2⟩) | refine k_skip rfl ?_ | refine k_want rfl ?_ | refine k_mv rfl ?_ | refine k_pickT rfl rfl ?_ | refine k_pickF rfl rfl ?_ | refine k_add rfl rfl (by omega) ?_ | refine k_lssT rfl rfl (by omega) ?_ | refine k_lssF rfl rfl (by omega) ?_ | refine k_eqlF rfl rfl (by omega) ?_))
          exact w_roundN ⟨i + 1, j + 1, s', _, _, by omega, by omega, u2, g2, rfl⟩ (by unfold qC; show p.length + q.length - (((i : Nat) : Int) + 1 + (((j : Nat) : Int) + 1)).toNat < _; omega)
    · have hjn : j = q.length := by omega
      subst hjn
      have g2 := g.step (i' := i + 1) (j' := q.length) (by rw [drop_cons' ht, List.drop_length]; exact mG_l) (by omega)
      have k82 := call83g kw h0 h q3 q4 q5 q6 q7 q8 _ _ s F r t.1 t.2 0 u tc z0 rl
      repeat' (first | refine w_seq ?_ | refine w_seqN ?_ | refine w_blk ?_ | refine w_blkN ?_ | refine w_skip ?_ | refine w_ops ?_ | refine w_opsD ?_ | refine d_one ?_ | refine d_nil ?_ | ((refine i_cond ?_); refine w_condT rfl ?_) | ((refine i_nil ?_); first | refine d_same ?_ | refine d_ord ?_ | refine w_end8 rfl rfl rfl rfl rfl rfl rfl rfl ?_ | refine w_end9 rfl rfl rfl rfl rfl rfl rfl rfl rfl ?_) | ((refine i_cons ?_); first | refine k_fldA rfl ?_ | refine k_ldC1 rfl u.c3 ?_ | refine k_ldC1 rfl u.c4 ?_ | refine k_len rfl lp ?_ | refine k_len rfl lq ?_ | refine k_idxA (esz := 2) rfl rfl (by omega) ?_ | refine k_ld rfl rp1 ?_ | refine k_ld rfl rp2 ?_ | (refine k_callvC rfl rfl k82 ?_; rintro w h2 ⟨s', u2⟩) | refine k_skip rfl ?_ | refine k_skipU rfl ?_ | refine k_mv rfl ?_ | refine k_pickT rfl rfl ?_ | refine k_add rfl rfl (by omega) ?_ | refine k_lssT rfl rfl (by omega) ?_ | refine k_eqlT rfl rfl (by omega) ?_))
      exact w_roundN ⟨i + 1, q.length, s', _, _, by omega, hj, u2, g2, rfl⟩ (by unfold qC; show p.length + q.length - (((i : Nat) : Int) + 1 + (q.length : Int)).toNat < _; omega)
  · have hin : i = p.length := by omega
    subst hin
    by_cases hjq : j < q.length
    · obtain ⟨v, hv⟩ : ∃ v, q[j]? = some v := ⟨_, List.getElem?_eq_getElem hjq⟩
      obtain ⟨vc, ve⟩ := fq v (List.mem_of_getElem? hv)
      obtain ⟨id2, off2, cap2, e2, r2⟩ := hq.at (i := j) (p := tmP v) (by simp [hv])
      rw [tms_len] at e2
      subst e2
      have rq := readN_ext u.e r2
      obtain ⟨rq1, rq2⟩ := rd1 rq
      have g2 := g.step (i' := p.length) (j' := j + 1) (by rw [drop_cons' hv, List.drop_length]; exact mG_r) (by omega)
      have k82 := call83g kw h0 h q3 q4 q5 q6 q7 q8 _ _ s F r v.1 0 v.2 u z0 vc rl
      repeat' (first | refine w_seq ?_ | refine w_seqN ?_ | refine w_blk ?_ | refine w_blkN ?_ | refine w_skip ?_ | refine w_ops ?_ | refine w_opsD ?_ | refine d_one ?_ | refine d_nil ?_ | ((refine i_cond ?_); first | refine w_condT rfl ?_ | refine w_condF rfl ?_) | ((refine i_nil ?_); first | refine d_same ?_ | refine d_ord ?_ | refine w_end8 rfl rfl rfl rfl rfl rfl rfl rfl ?_ | refine w_end9 rfl rfl rfl rfl rfl rfl rfl rfl rfl ?_) | ((refine i_cons ?_); first | refine k_fldA rfl ?_ | refine k_ldC1 rfl u.c3 ?_ | refine k_ldC1 rfl u.c4 ?_ | refine k_len rfl lp ?_ | refine k_len rfl lq ?_ | refine k_idxA (esz := 2) rfl rfl (by omega) ?_ | refine k_ld rfl rq1 ?_ | refine k_ld rfl rq2 ?_ | (refine k_callvC rfl rfl k82 ?_; rintro w h2 ⟨s', u2⟩) | refine k_skip rfl ?_ | refine k_want rfl ?_ | refine k_mv rfl ?_ | refine k_pickT rfl rfl ?_ | refine k_pickF rfl rfl ?_ | refine k_add rfl rfl (by omega) ?_ | refine k_lssT rfl rfl (by omega) ?_ | refine k_lssF rfl rfl (by omega) ?_ | refine k_eqlT rfl rfl (by omega) ?_ | refine k_eqlF rfl rfl (by omega) ?_))
      exact w_roundN ⟨p.length, j + 1, s', _, _, hi, by omega, u2, g2, rfl⟩ (by unfold qC; show p.length + q.length - ((p.length : Int) + (((j : Nat) : Int) + 1)).toNat < _; omega)
    · have hjn : j = q.length := by omega
      subst hjn
      repeat' (first | refine w_seq ?_ | refine w_seqN ?_ | refine w_seqX ?_ | refine w_exit ?_ | refine w_ops ?_ | ((refine i_cond ?_); refine w_condF rfl ?_) | ((refine i_nil ?_); refine w_end9 rfl rfl rfl rfl rfl rfl rfl rfl rfl ?_) | ((refine i_cons ?_); first | refine k_fldA rfl ?_ | refine k_ldC1 rfl u.c3 ?_ | refine k_ldC1 rfl u.c4 ?_ | refine k_len rfl lp ?_ | refine k_len rfl lq ?_ | refine k_want rfl ?_ | refine k_mv rfl ?_ | refine k_pickF rfl rfl ?_ | refine k_lssF rfl rfl (by omega) ?_))
      have h1 := g.eq
      have h2 := g.ft
      have e0 : mG w [] [] = [] := by unfold mG; rw [mrg]
      rw [List.drop_length, List.drop_length, e0] at h1 h2
      rw [List.append_nil] at h1
      rw [← h1] at u
      exact w_roundX ⟨rfl, s, F, u, h2.trans ⟨fun h => h.1, fun h => ⟨h, fun t ht => absurd ht (by simp)⟩⟩, _, _, _, _, _, _, rfl⟩
open Classical in
noncomputable def combP (w : Int → Int → Int) (p q : Pol) : Pol := if p.big = true ∨ q.big = true then bigP else if fitL (mG w p.ts q.ts) then ⟨false, mG w p.ts q.ts⟩ else bigP
theorem call51g {w : Int → Int → Int} {gf : FuncId} (kw : Wop gf w) (hw0 : w 0 0 = 0) (h0 : Heap) (sp sq : SV) (p q : Pol) (hp : IsD h0 sp (tms p.ts)) (hq : IsD h0 sq (tms q.ts)) (kp : Pok p) (kq : Pok q) :
    ∃ r h', Cal FT HKt 51 [.agg [.bool p.big, sp], .agg [.bool q.big, sq], .sc (.fn gf [])] h0 r h' ∧ Ext h0 h' ∧ IsPol h' r (combP w p q) := by
  refine Cal.of (F := a51) rfl rfl rfl ?_
  have lp := hp.len
  have lq := hq.len
  rw [tms_len] at lp lq
  by_cases hbp : p.big = true
  · have e : combP w p q = bigP := by unfold combP; rw [if_pos (.inl hbp)]
    rw [e, hbp]
    repeat' (first | refine w_seq ?_ | refine w_seqN ?_ | refine w_seqR ?_ | refine w_ret ?_ | refine w_ops ?_ | ((refine i_cond ?_); refine w_condT rfl ?_) | ((refine i_nil ?_); first | refine w_end1 rfl ?_ | refine w_end4 rfl rfl rfl rfl ?_ | refine w_end5 rfl rfl rfl rfl rfl ?_) | ((refine i_cons ?_); first | (have z := e5; refine k_newC ?_; intro h6 e6 c6; have d3 := c3.ext (e4.trans (e5.trans e6))) | (have z := e4; refine k_box1 rfl ?_; intro h5 e5 c5) | (have z := e3; refine k_boxC rfl ?_; intro h4 e4 c4) | (refine k_boxC rfl ?_; intro h3 e3 c3) | refine k_ldC0 rfl d3 ?_ | (refine k_bld rfl rfl ?_) | (refine k_stC rfl rfl c6 ?_; intro h7 w7) | refine k_skip rfl ?_ | refine k_mv rfl ?_ | refine k_pickT rfl rfl ?_ | refine k_ok rfl rfl ?_))
    exact ⟨.inr rfl, oK_cell rfl w7.cel.read ⟨w7.ext (e3.trans (e4.trans (e5.trans e6))) (Nat.le_trans e3.len (Nat.le_trans e4.len e5.len)), .nilS, rfl, IsD.nil _⟩⟩
  have hbp' : p.big = false := by simpa using hbp
  rw [hbp']
  by_cases hbq : q.big = true
  · have e : combP w p q = bigP := by unfold combP; rw [if_pos (.inr hbq)]
    rw [e, hbq]
    repeat' (first | refine w_seq ?_ | refine w_seqN ?_ | refine w_seqR ?_ | refine w_ret ?_ | refine w_ops ?_ | ((refine i_cond ?_); refine w_condT rfl ?_) | ((refine i_nil ?_); first | refine w_end1 rfl ?_ | refine w_end4 rfl rfl rfl rfl ?_ | refine w_end5 rfl rfl rfl rfl rfl ?_) | ((refine i_cons ?_); first | (have z := e5; refine k_newC ?_; intro h6 e6 c6; have d3 := c3.ext (e4.trans (e5.trans e6)); have d4 := c4.ext (e5.trans e6)) | (have z := e4; refine k_box1 rfl ?_; intro h5 e5 c5) | (have z := e3; refine k_boxC rfl ?_; intro h4 e4 c4) | (refine k_boxC rfl ?_; intro h3 e3 c3) | refine k_ldC0 rfl d3 ?_ | refine k_ldC0 rfl d4 ?_ | (refine k_bld rfl rfl ?_) | (refine k_stC rfl rfl c6 ?_; intro h7 w7) | refine k_want rfl ?_ | refine k_mv rfl ?_ | refine k_pickF rfl rfl ?_ | refine k_ok rfl rfl ?_))
    exact ⟨.inr rfl, oK_cell rfl w7.cel.read ⟨w7.ext (e3.trans (e4.trans (e5.trans e6))) (Nat.le_trans e3.len (Nat.le_trans e4.len e5.len)), .nilS, rfl, IsD.nil _⟩⟩
  have hbq' : q.big = false := by simpa using hbq
  rw [hbq']
  have nb : ¬ (p.big = true ∨ q.big = true) := fun h => h.elim hbp hbq
  have pl := kp.len
  have ql := kq.len
  repeat' (first | refine w_seq ?_ | refine w_seqN ?_ | refine w_blk ?_ | refine w_skip ?_ | refine w_ops ?_ | ((refine i_cond ?_); refine w_condF rfl ?_) | ((refine i_nil ?_); first | refine w_end4 rfl rfl rfl rfl ?_ | refine w_end5 rfl rfl rfl rfl rfl ?_ | refine w_end6 rfl rfl rfl rfl rfl rfl ?_ | refine w_end8 rfl rfl rfl rfl rfl rfl rfl rfl ?_) | ((refine i_cons ?_); first | (have z := e7; refine k_new1 ?_; intro h8 e8 c8; have u8 : CbG gf h0 h8 h0.length h3.length h4.length h5.length hB.length h7.length sp sq S false [] := ⟨xB.trans (e7.trans e8), d3_B.ext (e7.trans e8), d4_B.ext (e7.trans e8), Cel1.ext d5_B (e7.trans e8), c6_B.ext (e7.trans e8), c7.ext e8, c8, ((oB.ext e7).ext e8).weaken x6.len, ⟨Nat.le_refl _, c3.lt, c4.lt, Cel1.lt c5, by have := c6.lt; omega, c7.lt⟩⟩) | (have z := xB; refine k_newst rfl ?_; intro h7 e7 c7) | (have z := e5; refine k_newC ?_; intro h6 e6 c6; have d3 := c3.ext (e4.trans (e5.trans e6)); have d4 := c4.ext (e5.trans e6); have d5 := Cel1.ext c5 e6; have x6 := e3.trans (e4.trans (e5.trans e6))) | (have z := e4; refine k_box1 rfl ?_; intro h5 e5 c5) | (have z := e3; refine k_boxC rfl ?_; intro h4 e4 c4) | (refine k_boxC rfl ?_; intro h3 e3 c3) | refine k_ldC0 rfl d3 ?_ | refine k_ldC0 rfl d4 ?_ | refine k_ldC1 rfl d3 ?_ | refine k_ldC1 rfl d4 ?_ | refine k_len rfl lp ?_ | refine k_len rfl lq ?_ | (refine k_mkD x6 rfl rfl (by simp only [bigN]; omega) ?_; intro S hB oB eB xB lB; have d3_B := d3.ext eB; have d4_B := d4.ext eB; have d5_B := Cel1.ext d5 eB; have c6_B := c6.ext eB) | (refine k_bld rfl rfl ?_) | (refine k_st1' rfl rfl u8.c8 ?_; intro h9 w9 c9; have u9 := u8.st8 (G := true) w9 c9) | refine k_want rfl ?_ | refine k_mv rfl ?_ | refine k_pickF rfl rfl ?_ | refine k_add rfl rfl (by omega) ?_ | refine k_ok rfl rfl ?_))
  have g0 : MgG w p.ts q.ts 0 0 true [] := ⟨rfl, ⟨fun h => ⟨rfl, h⟩, fun h => h.2⟩, Nat.le_refl _⟩
  refine w_loop (J53 w gf h0 h0.length h3.length h4.length h5.length hB.length h7.length sp sq p.ts q.ts) (qC p.ts q.ts) (S53 w gf h0 h0.length h3.length h4.length h5.length hB.length h7.length sp sq p.ts q.ts) ⟨0, 0, S, true, [], Nat.zero_le _, Nat.zero_le _, u9, g0, rfl⟩ (round51g kw h0 h0.length h3.length h4.length h5.length hB.length h7.length sp sq p.ts q.ts hp hq (fun t ht => ⟨kp.cf t ht, kp.ex t ht⟩) (fun t ht => ⟨kq.cf t ht, kq.ex t ht⟩) pl ql) ?_
  rintro ex E' hC ⟨rfl, s, F, uC, hF, _, _, _, _, _, _, rfl⟩
  have o := uC.ord
  have c8 := uC.c8.at
  have c6 := uC.c6
  have lq6 : h0.length ≤ h5.length := by omega
  cases F
  · have e : combP w p q = bigP := by unfold combP; rw [if_neg nb, if_neg (fun h => by have := hF.1 h; simp at this)]
    rw [e]
    repeat' (first | refine w_seq ?_ | refine w_seqN ?_ | refine w_seqR ?_ | refine w_blkX ?_ | refine w_ret ?_ | refine w_ops ?_ | ((refine i_cond ?_); refine w_condT rfl ?_) | ((refine i_nil ?_); first | refine w_end1 rfl ?_ | refine w_end3 rfl rfl rfl ?_) | ((refine i_cons ?_); first | refine k_ldb rfl c8 rfl ?_ | (refine k_bld rfl rfl ?_) | (refine k_stC rfl rfl c6 ?_; intro hD wD) | refine k_notF rfl ?_))
    exact ⟨.inr rfl, oK_cell rfl wD.cel.read ⟨wD.ext uC.e lq6, .nilS, rfl, IsD.nil _⟩⟩
  · have e : combP w p q = ⟨false, mG w p.ts q.ts⟩ := by unfold combP; rw [if_neg nb, if_pos (hF.2 rfl)]
    rw [e]
    repeat' (first | refine w_seq ?_ | refine w_seqN ?_ | refine w_blkX ?_ | refine w_skip ?_ | refine w_ret ?_ | refine w_ops ?_ | ((refine i_cond ?_); refine w_condF rfl ?_) | ((refine i_nil ?_); first | refine w_end1 rfl ?_ | refine w_end3 rfl rfl rfl ?_) | ((refine i_cons ?_); first | refine k_ldb rfl c8 rfl ?_ | refine k_ldC rfl uC.c7 ?_ | (refine k_stC rfl rfl c6 ?_; intro hD wD) | refine k_notT rfl ?_))
    exact ⟨.inr rfl, oK_cell rfl wD.cel.read ⟨wD.ext uC.e lq6, s, rfl, (uC.o.wrC wD).is⟩⟩
end Go.Proofs.YtofknpknogfijaaGreatDoor
