/- Normal forms: the contracts of Normal and of the reference's Normal. -/
import Derived.Test.YtofknpknogfijaaGreatDoorNP
import Derived.Test.YtofknpknogfijaaGreatDoorMV3
import Derived.Test.YtofknpknogfijaaGreatDoorC3
import Derived.Test.YtofknpknogfijaaGreatDoorEX10
import Derived.Test.YtofknpknogfijaaGreatDoorO1
namespace Go.Proofs.YtofknpknogfijaaGreatDoor
open Go.Ab
set_option linter.unusedVariables false
set_option linter.unusedSimpArgs false
set_option maxRecDepth 20000
set_option maxHeartbeats 8000000
attribute [local irreducible] wOps wA wSeq wBlk wRound wRoundI wOpsD wOpsS
set_option linter.unusedSectionVars false
variable [HB]

theorem call25 (h0 : Heap) (sp : SV) (p : Pol) (hp : IsD h0 sp (tms p.ts)) (kp : Pok p) (hs : Sml p) (hl : p.ts.length ≤ 1000000) :
    ∃ r h', Cal FT HKt 25 [.agg [.bool p.big, sp]] h0 r h' ∧ Ext h0 h' ∧ IsPol h' r (nrmP p) := by
  refine Cal.of (F := a25) rfl rfl rfl ?_
  have k39 := fun H => call39 H p.big sp
  have k14 := fun H (e : Ext h0 H) => call14 H p.big sp p.ts (hp.ext e)
  cases hb : p.big with
  | true =>
    rw [hb] at k39 k14
    have hn : nrmP p = p := by unfold nrmP; rw [if_pos (.inl hb)]
    rw [hn]
    repeat' (first | refine w_seq ?_ | refine w_seqN ?_ | refine w_seqR ?_ | refine w_ret ?_ | refine w_ops ?_ | ((refine i_cond ?_); refine w_condT rfl ?_) | ((refine i_nil ?_); first | refine w_end1 rfl ?_ | refine w_end2 rfl rfl ?_ | refine w_end3 rfl rfl rfl ?_) | ((refine i_cons ?_); first | (have z := e1; refine k_newC ?_; intro h2 e2 c2; have c1' := c1.ext e2) | (refine k_boxC rfl ?_; intro h1 e1 c1) | (refine k_call rfl (k39 _) ?_; rintro r h3 ⟨e3, rfl⟩; replace c1' := c1'.ext e3; replace c2 := c2.ext e3) | refine k_ldC rfl c1' ?_ | (refine k_stC rfl rfl c2 ?_; intro h5 w5) | refine k_skip rfl ?_ | refine k_mv rfl ?_ | refine k_pickT rfl rfl ?_))
    exact ⟨.inr rfl, oK_cell rfl w5.cel.read ⟨w5.ext ((e1.trans e2).trans e3) e1.len, sp, by rw [hb], (((hp.ext e1).ext e2).ext e3).wrC w5⟩⟩
  | false =>
    rw [hb] at k39 k14
    by_cases hz : p.ts = []
    · have hn : nrmP p = p := by unfold nrmP; rw [if_pos (.inr hz)]
      rw [hn]
      simp only [hz, decide_true, Bool.not_false, Bool.and_true] at k14
      repeat' (first | refine w_seq ?_ | refine w_seqN ?_ | refine w_seqR ?_ | refine w_ret ?_ | refine w_ops ?_ | ((refine i_cond ?_); refine w_condT rfl ?_) | ((refine i_nil ?_); first | refine w_end1 rfl ?_ | refine w_end2 rfl rfl ?_ | refine w_end3 rfl rfl rfl ?_) | ((refine i_cons ?_); first | (have z := e1; refine k_newC ?_; intro h2 e2 c2; have c1' := c1.ext e2; have x := e1.trans e2) | (refine k_boxC rfl ?_; intro h1 e1 c1) | (refine k_call rfl (k39 _) ?_; rintro r h3 ⟨e3, rfl⟩; replace c1' := c1'.ext e3; replace c2 := c2.ext e3; replace x := x.trans e3) | refine k_ldC rfl c1' ?_ | (refine k_call rfl (k14 _ x) ?_; rintro r h4 ⟨e4, rfl⟩; replace c1' := c1'.ext e4; replace c2 := c2.ext e4; replace x := x.trans e4) | (refine k_stC rfl rfl c2 ?_; intro h5 w5) | refine k_want rfl ?_ | refine k_mv rfl ?_ | refine k_pickF rfl rfl ?_))
      exact ⟨.inr rfl, oK_cell rfl w5.cel.read ⟨w5.ext x e1.len, sp, by rw [hb], (hp.ext x).wrC w5⟩⟩
    · simp only [hz, decide_false, Bool.and_false] at k14
      have k53 := fun H (e : Ext h0 H) => call53 H false sp p.ts (hp.ext e)
      have k62 := fun H (e : Ext h0 H) => call62 H false sp p.ts (lo0 p.ts) (hp.ext e) kp.can (by omega)
      rw [cf_hd kp.can] at k62
      have k24 := fun H (e : Ext h0 H) => call24 H sp p (hp.ext e) kp
      rw [hb] at k24
      have hmov := nrm_mov kp hs hb hz
      obtain ⟨t0, ht0, elo⟩ := lo0_mem hz
      have hlo := hs t0 ht0
      by_cases hd : hd0 p.ts < 0
      · have hsg : sgT p.ts = p.ts.map ngT := by unfold sgT; rw [if_pos hd]
        rw [negP_eq kp] at k24
        have hng : ngP p = ⟨false, p.ts.map ngT⟩ := by unfold ngP; rw [hb]
        have kn := ngP_ok kp
        rw [hng] at k24 kn
        rw [hsg] at hmov
        have k53' := fun H s1 (e : IsD H s1 (tms (p.ts.map ngT))) => call53 H false s1 (p.ts.map ngT) e
        have k28 := fun H s1 (e : IsD H s1 (tms (p.ts.map ngT))) => call28 H s1 ⟨false, p.ts.map ngT⟩ e kn (-lo0 p.ts) (by omega)
        rw [hmov] at k28
        simp only [lo0_ng] at k53'
        repeat' (first | refine w_seq ?_ | refine w_seqN ?_ | refine w_skip ?_ | refine w_ret ?_ | refine w_ops ?_ | refine w_opsD ?_ | refine d_one ?_ | refine d_nil ?_ | ((refine i_cond ?_); first | refine w_condT rfl ?_ | refine w_condF rfl ?_) | ((refine i_nil ?_); first | refine d_same ?_ | refine d_ord ?_ | refine d_ext (by assumption) ?_ | refine w_end1 rfl ?_ | refine w_end2 rfl rfl ?_ | refine w_end3 rfl rfl rfl ?_) | ((refine i_cons ?_); first | (have z := e1; refine k_newC ?_; intro h2 e2 c2; have c1' := c1.ext e2; have x := e1.trans e2) | (refine k_boxC rfl ?_; intro h1 e1 c1; have n1 := c1.lt) | (have z := w6; refine k_ldC rfl c6 ?_) | (refine k_call rfl (k39 _) ?_; rintro r h3 ⟨e3, rfl⟩; replace c1' := c1'.ext e3; replace c2 := c2.ext e3; replace x := x.trans e3) | refine k_ldC rfl c1' ?_ | (refine k_call rfl (k14 _ x) ?_; rintro r h4 ⟨e4, rfl⟩; replace c1' := c1'.ext e4; replace c2 := c2.ext e4; replace x := x.trans e4) | (refine k_call rfl (k53 _ x) ?_; rintro r h4 ⟨e4, rfl⟩; replace c1' := c1'.ext e4; replace c2 := c2.ext e4; replace x := x.trans e4) | (refine k_call rfl (k62 _ x) ?_; rintro r h4 ⟨e4, rfl⟩; replace c1' := c1'.ext e4; replace c2 := c2.ext e4; replace x := x.trans e4) | (refine k_call rfl (k24 _ x) ?_; rintro r h5 ⟨e5, s5, rfl, d5⟩; replace c1' := c1'.ext e5; replace c2 := c2.ext e5; replace x := x.trans e5) | (refine k_stC rfl rfl c1' ?_; intro h6 w6; have c6 := w6.cel; have d6 := d5.wrC w6; replace c2 := w6.keep c2 (by omega); replace x := w6.ext x (by omega)) | (refine k_call rfl (k53' _ _ d6) ?_; rintro r h7 ⟨e7, rfl⟩; replace c6 := c6.ext e7; replace c2 := c2.ext e7; replace d6 := d6.ext e7; replace x := x.trans e7) | (refine k_call rfl (k28 _ _ d6) ?_; rintro r h8 ⟨e8, s8, rfl, d8⟩; replace c2 := c2.ext e8; replace x := x.trans e8) | (refine k_stC rfl rfl c2 ?_; intro h9 w9) | refine k_want rfl ?_ | refine k_mv rfl ?_ | refine k_pickF rfl rfl ?_ | refine k_neg rfl (by omega) ?_ | refine k_lssT rfl rfl (by omega) ?_))
        exact ⟨.inr rfl, oK_cell rfl w9.cel.read ⟨w9.ext x e1.len, s8, rfl, d8.wrC w9⟩⟩
      · have hsg : sgT p.ts = p.ts := by unfold sgT; rw [if_neg hd]
        rw [hsg] at hmov
        have hpe : p = ⟨false, p.ts⟩ := by obtain ⟨b, ts⟩ := p; simp only at hb; subst hb; rfl
        have k28 := fun H (e : Ext h0 H) => call28 H sp p (hp.ext e) kp (-lo0 p.ts) (by omega)
        rw [hb] at k28
        rw [← hpe] at hmov
        rw [hmov] at k28
        repeat' (first | refine w_seq ?_ | refine w_seqN ?_ | refine w_skip ?_ | refine w_ret ?_ | refine w_ops ?_ | refine w_opsD ?_ | refine d_one ?_ | refine d_nil ?_ | ((refine i_cond ?_); refine w_condF rfl ?_) | ((refine i_nil ?_); first | refine d_same ?_ | refine d_ord ?_ | refine d_ext (by assumption) ?_ | refine w_end1 rfl ?_ | refine w_end2 rfl rfl ?_ | refine w_end3 rfl rfl rfl ?_) | ((refine i_cons ?_); first | (have z := e1; refine k_newC ?_; intro h2 e2 c2; have c1' := c1.ext e2; have x := e1.trans e2) | (refine k_boxC rfl ?_; intro h1 e1 c1) | (refine k_call rfl (k39 _) ?_; rintro r h3 ⟨e3, rfl⟩; replace c1' := c1'.ext e3; replace c2 := c2.ext e3; replace x := x.trans e3) | refine k_ldC rfl c1' ?_ | (refine k_call rfl (k14 _ x) ?_; rintro r h4 ⟨e4, rfl⟩; replace c1' := c1'.ext e4; replace c2 := c2.ext e4; replace x := x.trans e4) | (refine k_call rfl (k53 _ x) ?_; rintro r h4 ⟨e4, rfl⟩; replace c1' := c1'.ext e4; replace c2 := c2.ext e4; replace x := x.trans e4) | (refine k_call rfl (k62 _ x) ?_; rintro r h4 ⟨e4, rfl⟩; replace c1' := c1'.ext e4; replace c2 := c2.ext e4; replace x := x.trans e4) | (refine k_call rfl (k28 _ x) ?_; rintro r h8 ⟨e8, s8, rfl, d8⟩; replace c2 := c2.ext e8; replace x := x.trans e8) | (refine k_stC rfl rfl c2 ?_; intro h9 w9) | refine k_want rfl ?_ | refine k_mv rfl ?_ | refine k_pickF rfl rfl ?_ | refine k_neg rfl (by omega) ?_ | refine k_lssF rfl rfl (by omega) ?_))
        exact ⟨.inr rfl, oK_cell rfl w9.cel.read ⟨w9.ext x e1.len, s8, rfl, d8.wrC w9⟩⟩
theorem ofP_one {a : Int} (h : a.natAbs ≤ 1000) : ofP a [1] = ⟨false, [(a, 1)]⟩ := by
  unfold ofP
  have e : ofN a [1] 1 = some [(a, 1)] := by
    show (some []).bind _ = _
    rw [Option.bind_some, if_neg (by decide), if_pos ⟨by decide, by simp only [eM]; omega, by simp only [eM]; omega⟩]
    simp
  show (match ofN a [1] 1 with | some r => (⟨false, r⟩ : Pol) | none => bigP) = _
  rw [e]
section
variable {FT : FuncId → Option AFun} {HK : FuncId → Option Hook} {E : Env} {h : Heap} {K : Env → Heap → Prop} {d : Option Nat} {r : List AOp} {xo : AO}
/-- A literal of one number. -/
theorem k_bslI {x : Int} {z0 : SV} (hx : ev E xo = some (.sc (.int .i64 x))) (hw : ∀ h1, Ext h h1 → IsInts h1 (.slc h.length 0 1 (some 1)) [x] → wOps FT HK r (bindE d (some (.sc (.slc h.length 0 1 (some 1)))) E) h1 K) :
    wOps FT HK (⟨d, .bsl 1 [z0] 1 [(0, xo)], none⟩ :: r) E h K :=
  k_bsl1 hx (hw _ ⟨_, rfl⟩ (IsInts.lit rfl rfl))
end
theorem call26 (h0 : Heap) (sp : SV) (p : Pol) (hp : IsD h0 sp (tms p.ts)) (kp : Pok p) (hs : Sml p) (hl : p.ts.length ≤ 32) :
    ∃ r h', Cal FT HKt 26 [.agg [sp, .bool p.big]] h0 r h' ∧ Ext h0 h' ∧ IsRf h' r (nrmP p) := by
  refine Cal.of (F := a26) rfl rfl rfl ?_
  have hlen := hp.len
  rw [tms_len] at hlen
  cases hb : p.big with
  | true =>
    have hn : nrmP p = p := by unfold nrmP; rw [if_pos (.inl hb)]
    rw [hn]
    repeat' (first | refine w_seq ?_ | refine w_seqN ?_ | refine w_seqR ?_ | refine w_ret ?_ | refine w_ops ?_ | ((refine i_cond ?_); refine w_condT rfl ?_) | ((refine i_nil ?_); first | refine w_end1 rfl ?_ | refine w_end2 rfl rfl ?_ | refine w_end3 rfl rfl rfl ?_) | ((refine i_cons ?_); first | (have z := e1; refine k_newC ?_; intro h2 e2 c2; have c1' := c1.ext e2) | (refine k_boxC rfl ?_; intro h1 e1 c1) | refine k_fldA rfl ?_ | refine k_ldC1 rfl c1' ?_ | refine k_ldC rfl c1' ?_ | (refine k_stC rfl rfl c2 ?_; intro h5 w5) | refine k_skip rfl ?_ | refine k_mv rfl ?_ | refine k_pickT rfl rfl ?_))
    exact ⟨.inr rfl, oK_cell rfl w5.cel.read ⟨w5.ext (e1.trans e2) e1.len, sp, by rw [hb], ((hp.ext e1).ext e2).wrC w5⟩⟩
  | false =>
    by_cases hz : p.ts = []
    · have hn : nrmP p = p := by unfold nrmP; rw [if_pos (.inr hz)]
      rw [hn]
      have hlen0 : (p.ts.length : Int) = 0 := by rw [hz]; rfl
      repeat' (first | refine w_seq ?_ | refine w_seqN ?_ | refine w_seqR ?_ | refine w_ret ?_ | refine w_ops ?_ | ((refine i_cond ?_); refine w_condT rfl ?_) | ((refine i_nil ?_); first | refine w_end1 rfl ?_ | refine w_end2 rfl rfl ?_ | refine w_end3 rfl rfl rfl ?_) | ((refine i_cons ?_); first | (have z := e1; refine k_newC ?_; intro h2 e2 c2; have c1' := c1.ext e2) | (refine k_boxC rfl ?_; intro h1 e1 c1) | refine k_fldA rfl ?_ | refine k_ldC0 rfl c1' ?_ | refine k_ldC1 rfl c1' ?_ | refine k_len rfl hlen ?_ | refine k_ldC rfl c1' ?_ | (refine k_stC rfl rfl c2 ?_; intro h5 w5) | refine k_want rfl ?_ | refine k_mv rfl ?_ | refine k_pickF rfl rfl ?_ | refine k_eqlT rfl rfl (by omega) ?_))
      exact ⟨.inr rfl, oK_cell rfl w5.cel.read ⟨w5.ext (e1.trans e2) e1.len, sp, by rw [hb], ((hp.ext e1).ext e2).wrC w5⟩⟩
    · obtain ⟨t0, ht0, elo⟩ := lo0_mem hz
      have hlo := hs t0 ht0
      obtain ⟨t, rest, hts⟩ : ∃ t rest, p.ts = t :: rest := by
        cases h : p.ts with
        | nil => exact absurd h hz
        | cons t rest => exact ⟨t, rest, rfl⟩
      have el : lo0 p.ts = t.1 := by rw [hts]; rfl
      have eh : hd0 p.ts = t.2 := by rw [hts]; rfl
      have hpos : 0 < p.ts.length := List.length_pos_iff.2 hz
      obtain ⟨id, off, cap, es, rA⟩ := hp.at (i := 0) (p := tmP t) (by simp [hts])
      rw [tms_len] at es
      subst es
      have rA := (rd1 rA)
      have rr := rfN_eq kp hs
      have hone := ofP_one (a := -lo0 p.ts) (by omega)
      have k27 := fun H c (hc : IsInts H c [1]) => call27 H (-lo0 p.ts) c [1] ⟨by decide, by omega, by omega, by simp [smC]⟩ hc
      rw [hone] at k27
      have k46 := fun H s (e : Ext h0 H) (hq : IsD H s (tms [(-lo0 p.ts, 1)])) => call46 H (.slc id off p.ts.length cap) s p.ts [(-lo0 p.ts, 1)] (hp.ext e) hq (fun t ht => ⟨kp.cf t ht, by have := hs t ht; omega⟩) (fun t ht => by simp at ht; subst ht; exact ⟨by simp [cM], by simp only; omega⟩) (fun a ha t ht => by simp at ht; subst ht; rw [Int.mul_one]; have := kp.cf a ha; simp only [cM, bM] at this ⊢; omega) (by omega) (by simp; omega)
      have hmu := mul_one p.ts (-lo0 p.ts) kp.can fun t ht => ⟨kp.cf t ht, by have := hs t ht; simp only [eM]; omega⟩
      have hnrm : nrmP p = if hd0 p.ts < 0 then ngP (colP (mulAll p.ts [(-lo0 p.ts, 1)] [])) else colP (mulAll p.ts [(-lo0 p.ts, 1)] []) := by
        rw [← rr]; unfold rfN; rw [if_neg (by rw [hb]; simp [hz])]
      have kc : Pok (colP (mulAll p.ts [(-lo0 p.ts, 1)] [])) := by
        rw [hmu]
        refine ⟨by simp, ⟨List.pairwise_map.2 (kp.can.asc.imp fun {x y} hxy => by simp only; omega), fun u hu => ?_⟩, fun u hu => ?_, fun u hu => ?_⟩
        all_goals obtain ⟨v, hv, rfl⟩ := List.mem_map.1 hu
        · exact kp.can.nz v hv
        · exact kp.cf v hv
        · have := hs v hv; simp only [eM]; omega
      have hlm : (colP (mulAll p.ts [(-lo0 p.ts, 1)] [])).ts.length ≤ 32 := by rw [hmu]; simpa using hl
      have hbm : (colP (mulAll p.ts [(-lo0 p.ts, 1)] [])).big = false := by rw [hmu]
      rw [el] at k27 k46 kc hlm hbm hnrm
      rw [hnrm, eh]
      clear hmu hone hnrm
      generalize colP (mulAll p.ts [(-t.1, 1)] []) = C at *
      have k48 := fun H s (hq : IsD H s (tms C.ts)) => call48 H s C hq kc.cf (by omega)
      by_cases hd : t.2 < 0
      · rw [if_pos hd]
        repeat' (first | refine w_seq ?_ | refine w_seqN ?_ | refine w_seqR ?_ | refine w_skip ?_ | refine w_ret ?_ | refine w_ops ?_ | refine w_opsD ?_ | refine d_one ?_ | refine d_nil ?_ | ((refine i_cond ?_); first | refine w_condT rfl ?_ | refine w_condF rfl ?_) | ((refine i_nil ?_); first | refine d_same ?_ | refine d_ord ?_ | refine d_ext (by assumption) ?_ | refine w_end1 rfl ?_ | refine w_end2 rfl rfl ?_ | refine w_end3 rfl rfl rfl ?_) | ((refine i_cons ?_); first | (have z := c3; refine k_ldC rfl c3 ?_) | (have z := e6; have n3 := c2.lt; refine k_newC ?_; intro h7 e7 c3; replace c1' := c1'.ext e7; replace c2 := c2.ext e7; replace d6 := d6.ext e7; replace x := x.trans e7) | (have z := e1; refine k_newC ?_; intro h2 e2 c2; have c1' := c1.ext e2; have x := e1.trans e2) | (refine k_boxC rfl ?_; intro h1 e1 c1; have n1 := c1.lt) | refine k_fldA rfl ?_ | refine k_ldC0 rfl c1' ?_ | refine k_ldC1 rfl c1' ?_ | refine k_len rfl hlen ?_ | refine k_ldC rfl c1' ?_ | refine k_idxA (esz := 2) rfl rfl (by omega) ?_ | refine k_ld rfl (readN_ext x rA.1) ?_ | refine k_ld rfl (readN_ext x rA.2) ?_ | (refine k_bslI rfl ?_; intro h4 e4 i4; replace c1' := c1'.ext e4; replace c2 := c2.ext e4; replace x := x.trans e4) | (refine k_call rfl (k27 _ _ i4) ?_; rintro v h5 ⟨e5, s5, rfl, d5⟩; replace c1' := c1'.ext e5; replace c2 := c2.ext e5; replace x := x.trans e5) | (refine k_call rfl (k46 _ _ x d5) ?_; rintro v h6 ⟨e6, s6, rfl, d6⟩; replace c1' := c1'.ext e6; replace c2 := c2.ext e6; replace x := x.trans e6) | (refine k_stC rfl rfl c3 ?_; intro h8 w8; replace c3 := w8.cel; replace c1' := w8.keep c1' (by omega); replace c2 := w8.keep c2 (by omega); replace d6 := d6.wrC w8; replace x := w8.ext x (by omega)) | (refine k_call rfl (k48 _ _ d6) ?_; rintro v h9 ⟨e9, s9, rfl, d9⟩; replace c2 := c2.ext e9; replace x := x.trans e9) | (refine k_stC rfl rfl c2 ?_; intro h10 w10) | refine k_want rfl ?_ | refine k_mv rfl ?_ | refine k_pickF rfl rfl ?_ | refine k_neg rfl (by omega) ?_ | refine k_lssT rfl rfl (by omega) ?_ | refine k_eqlF rfl rfl (by omega) ?_))
        exact ⟨.inr rfl, oK_cell rfl w10.cel.read ⟨w10.ext x e1.len, s9, rfl, d9.wrC w10⟩⟩
      · rw [if_neg hd]
        repeat' (first | refine w_seq ?_ | refine w_seqN ?_ | refine w_skip ?_ | refine w_ret ?_ | refine w_ops ?_ | refine w_opsD ?_ | refine d_one ?_ | refine d_nil ?_ | ((refine i_cond ?_); refine w_condF rfl ?_) | ((refine i_nil ?_); first | refine d_same ?_ | refine d_ord ?_ | refine d_ext (by assumption) ?_ | refine w_end1 rfl ?_ | refine w_end2 rfl rfl ?_ | refine w_end3 rfl rfl rfl ?_) | ((refine i_cons ?_); first | (have z := c3; refine k_ldC rfl c3 ?_) | (have z := e6; have n3 := c2.lt; refine k_newC ?_; intro h7 e7 c3; replace c1' := c1'.ext e7; replace c2 := c2.ext e7; replace d6 := d6.ext e7; replace x := x.trans e7) | (have z := e1; refine k_newC ?_; intro h2 e2 c2; have c1' := c1.ext e2; have x := e1.trans e2) | (refine k_boxC rfl ?_; intro h1 e1 c1; have n1 := c1.lt) | refine k_fldA rfl ?_ | refine k_ldC0 rfl c1' ?_ | refine k_ldC1 rfl c1' ?_ | refine k_len rfl hlen ?_ | refine k_ldC rfl c1' ?_ | refine k_idxA (esz := 2) rfl rfl (by omega) ?_ | refine k_ld rfl (readN_ext x rA.1) ?_ | refine k_ld rfl (readN_ext x rA.2) ?_ | (refine k_bslI rfl ?_; intro h4 e4 i4; replace c1' := c1'.ext e4; replace c2 := c2.ext e4; replace x := x.trans e4) | (refine k_call rfl (k27 _ _ i4) ?_; rintro v h5 ⟨e5, s5, rfl, d5⟩; replace c1' := c1'.ext e5; replace c2 := c2.ext e5; replace x := x.trans e5) | (refine k_call rfl (k46 _ _ x d5) ?_; rintro v h6 ⟨e6, s6, rfl, d6⟩; replace c1' := c1'.ext e6; replace c2 := c2.ext e6; replace x := x.trans e6) | (refine k_stC rfl rfl c3 ?_; intro h8 w8; replace c3 := w8.cel; replace c1' := w8.keep c1' (by omega); replace c2 := w8.keep c2 (by omega); replace d6 := d6.wrC w8; replace x := w8.ext x (by omega)) | (refine k_stC rfl rfl c2 ?_; intro h10 w10) | refine k_want rfl ?_ | refine k_mv rfl ?_ | refine k_pickF rfl rfl ?_ | refine k_neg rfl (by omega) ?_ | refine k_lssF rfl rfl (by omega) ?_ | refine k_eqlF rfl rfl (by omega) ?_))
        exact ⟨.inr rfl, oK_cell rfl w10.cel.read ⟨w10.ext x e1.len, s6, rfl, d6.wrC w10⟩⟩
end Go.Proofs.YtofknpknogfijaaGreatDoor
