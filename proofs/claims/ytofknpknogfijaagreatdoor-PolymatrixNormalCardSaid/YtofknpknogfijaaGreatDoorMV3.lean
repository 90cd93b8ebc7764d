/- moved: contract. -/
import Derived.Test.YtofknpknogfijaaGreatDoorMV1
import Derived.Test.YtofknpknogfijaaGreatDoorLS1
namespace Go.Proofs.YtofknpknogfijaaGreatDoor
open Go.Ab
set_option linter.unusedVariables false
set_option linter.unusedSimpArgs false
set_option maxRecDepth 20000
set_option maxHeartbeats 8000000
attribute [local irreducible] wOps wA wSeq wBlk wRound wRoundI wOpsD wOpsS
set_option linter.unusedSectionVars false
variable [HB]

/-- What a closure says of exponents. -/
def Mover (h0 : Heap) (g : FuncId) (caps : List (Nat × Nat)) (f : Int → Int) : Prop := ∀ H, Ext h0 H → ∀ e : Int, e.natAbs ≤ eM → ∃ r h', Cal FT HKt g ([.sc (.int .i64 e)] ++ caps.map fun p => AV.sc (.ptr p.1 p.2)) H r h' ∧ r = .sc (.int .i64 (f e)) ∧ h' = H
abbrev mvT (f : Int → Int) (l : List Tm) : List Tm := l.map fun t => (f t.1, t.2)
structure St63 (h0 h : Heap) (q4 q5 : Nat) (s : SV) (r : List Tm) : Prop where
  e : Ext h0 h
  c4 : Cel h q4 (.bool false) .nilS
  c5 : Cel h q5 (.bool false) s
  o : OwnD h0 h s (tms r)
theorem St63.ext {h0 h h' : Heap} {q4 q5 : Nat} {s : SV} {r : List Tm} (x : St63 h0 h q4 q5 s r) (he : Ext h h') : St63 h0 h' q4 q5 s r := ⟨x.e.trans he, x.c4.ext he, x.c5.ext he, x.o.ext he⟩
def I63 (h0 : Heap) (q4 q5 : Nat) (fn sp : SV) (f : Int → Int) (ts : List Tm) (E : Env) (h : Heap) : Prop := ∃ (i : Nat) (s : SV), i ≤ ts.length ∧ (∀ t ∈ ts.take i, (f t.1).natAbs ≤ eM) ∧ St63 h0 h q4 q5 s (mvT f (ts.take i)) ∧
  E.keep [1, 4, 5, 18, 19, 20] = [(1, some (.sc fn)), (4, some (.sc (.ptr q4 0))), (5, some (.sc (.ptr q5 0))), (18, some (.sc sp)), (19, some (.sc (.int .i64 (ts.length : Nat)))), (20, some (.sc (.int .i64 (i : Nat))))]
def R63 (h0 : Heap) (q4 q5 : Nat) (f : Int → Int) (ts : List Tm) (ex : Ex) (E : Env) (h : Heap) : Prop :=
  (ex = .ex 0 ∧ ∃ s, (∀ t ∈ ts, (f t.1).natAbs ≤ eM) ∧ St63 h0 h q4 q5 s (mvT f ts) ∧ ∃ a b c d e, E = [(1, a), (4, some (.sc (.ptr q4 0))), (5, some (.sc (.ptr q5 0))), (18, b), (19, c), (20, d), (21, e)]) ∨
  (ex = .rt ∧ ¬ (∀ t ∈ ts, (f t.1).natAbs ≤ eM) ∧ Ext h0 h ∧ Cel h q4 (.bool true) .nilS ∧ E = [(4, some (.sc (.ptr q4 0)))])
theorem round63 (h0 : Heap) (q4 q5 : Nat) (g : FuncId) (caps : List (Nat × Nat)) (f : Int → Int) (kf : Mover h0 g caps f) (sp : SV) (ts : List Tm) (hs : IsD h0 sp (tms ts)) (hl : ts.length ≤ 2097153) (hx : ∀ t ∈ ts, t.1.natAbs ≤ eM) (l4 : h0.length ≤ q4) (l5 : h0.length ≤ q5) (n45 : q4 ≠ q5) (E : Env) (h : Heap) (hI : I63 h0 q4 q5 (.fn g caps) sp f ts E h) :
    wA FT HKt b63L0 (E.keep [1, 4, 5, 18, 19, 20]) h (wRound (I63 h0 q4 q5 (.fn g caps) sp f ts) (cK [1, 4, 5, 18, 19, 20] ts.length 20) (cK [1, 4, 5, 18, 19, 20] ts.length 20 E h) (R63 h0 q4 q5 f ts)) := by
  obtain ⟨i, s, hi, hsm, st, hE⟩ := hI
  have hm : cK [1, 4, 5, 18, 19, 20] ts.length 20 E h = ts.length - i := by unfold cK; rw [hE]; rfl
  rw [hm, hE]
  by_cases hlt : i < ts.length
  · obtain ⟨t, ht⟩ : ∃ t, ts[i]? = some t := ⟨_, List.getElem?_eq_getElem hlt⟩
    have hte := hx t (List.mem_of_getElem? ht)
    obtain ⟨id, off, cap, e1, r0⟩ := hs.at (i := i) (p := tmP t) (by simp [ht])
    rw [tms_len] at e1
    subst e1
    have r1 := readN_ext st.e r0
    have tk : ts.take (i + 1) = ts.take i ++ [t] := by rw [List.take_add_one, ht]; rfl
    have hll : (mvT f (ts.take i)).length ≤ 2097153 := by rw [List.length_map, List.length_take]; omega
    have k1 := fun H (e : Ext h0 H) => kf H e t.1 hte
    have k35 := fun H => call50 H (f t.1) 1048576 (by omega)
    have e6 : ((1048576 : Int)).toNat = eM := rfl
    rw [e6] at k35
    by_cases hb : (f t.1).natAbs ≤ eM
    · rw [decide_eq_true hb] at k35
      repeat' (first | refine w_seq ?_ | refine w_seqN ?_ | refine w_blk ?_ | refine w_blkN ?_ | refine w_skip ?_ | refine w_ops ?_ | ((refine i_cond ?_); first | refine w_condT rfl ?_ | refine w_condF rfl ?_) | ((refine i_nil ?_); first | refine w_end6 rfl rfl rfl rfl rfl rfl ?_ | refine w_end7 rfl rfl rfl rfl rfl rfl rfl ?_ | refine w_end8 rfl rfl rfl rfl rfl rfl rfl rfl ?_ | refine w_end9 rfl rfl rfl rfl rfl rfl rfl rfl rfl ?_) | ((refine i_cons ?_); first | refine k_idxA (esz := 2) rfl rfl (by omega) ?_ | refine k_ldD rfl r1 ?_ | (refine k_newst rfl ?_; intro h2 e2 c7; have s2 := st.ext e2) | refine k_fldA rfl ?_ | refine k_ldC0 rfl c7 ?_ | (refine k_callvC rfl rfl (k1 h2 s2.e) ?_; rintro r h3 ⟨rfl, rfl⟩) | (refine k_call rfl (k35 _) ?_; rintro r h4 ⟨rfl, rfl⟩) | refine k_ldC1 rfl s2.c5 ?_ | refine k_ldC1 rfl c7 ?_ | (refine k_bld rfl rfl ?_) | (refine k_pushD s2.e s2.o rfl rfl (by rw [tms_len]; simp only [bigN]; omega) ?_; intro s' h5 o5 e5 f5 l5'; have d5 := s2.c5.fram f5 (s2.o.cel s2.c5)) | (refine k_stC1 rfl rfl d5 ?_; intro h6 w6) | refine k_mv rfl ?_ | refine k_notT rfl ?_ | refine k_add rfl rfl (by omega) ?_ | refine k_lssT rfl rfl (by omega) ?_))
      have d4 := s2.c4.fram f5 (s2.o.cel s2.c4)
      refine w_roundN ⟨i + 1, s', by omega, fun u hu => ?_, ⟨w6.ext e5 l5, w6.keep d4 n45, w6.cel, ?_⟩, rfl⟩ (by simp [cK, Env.keep, Env.get]; omega)
      · rw [tk] at hu
        rcases List.mem_append.1 hu with hu | hu
        · exact hsm u hu
        · simp at hu; subst hu; exact hb
      · rw [tk]
        have := o5.wrC w6
        simpa [tms, tmP, mvT] using this
    · rw [decide_eq_false hb] at k35
      repeat' (first | refine w_seq ?_ | refine w_seqN ?_ | refine w_seqR ?_ | refine w_blk ?_ | refine w_blkR ?_ | refine w_skip ?_ | refine w_ret ?_ | refine w_ops ?_ | ((refine i_cond ?_); refine w_condT rfl ?_) | ((refine i_nil ?_); first | refine w_end1 rfl ?_ | refine w_end7 rfl rfl rfl rfl rfl rfl rfl ?_ | refine w_end8 rfl rfl rfl rfl rfl rfl rfl rfl ?_ | refine w_end9 rfl rfl rfl rfl rfl rfl rfl rfl rfl ?_) | ((refine i_cons ?_); first | refine k_idxA (esz := 2) rfl rfl (by omega) ?_ | refine k_ldD rfl r1 ?_ | (refine k_newst rfl ?_; intro h2 e2 c7; have s2 := st.ext e2) | refine k_fldA rfl ?_ | refine k_ldC0 rfl c7 ?_ | (refine k_callvC rfl rfl (k1 h2 s2.e) ?_; rintro r h3 ⟨rfl, rfl⟩) | (refine k_call rfl (k35 _) ?_; rintro r h4 ⟨rfl, rfl⟩) | (refine k_bld rfl rfl ?_) | (have c4 := s2.c4; refine k_stC rfl rfl c4 ?_; intro h6 w6) | refine k_mv rfl ?_ | refine k_notF rfl ?_ | refine k_lssT rfl rfl (by omega) ?_))
      exact w_roundR (.inr ⟨rfl, fun h => hb (h t (List.mem_of_getElem? ht)), w6.ext s2.e l4, w6.cel, rfl⟩)
  · have : i = ts.length := by omega
    subst this
    rw [List.take_length] at hsm st
    repeat' (first | refine w_seq ?_ | refine w_seqN ?_ | refine w_seqX ?_ | refine w_exit ?_ | refine w_ops ?_ | ((refine i_cond ?_); refine w_condF rfl ?_) | ((refine i_nil ?_); refine w_end7 rfl rfl rfl rfl rfl rfl rfl ?_) | ((refine i_cons ?_); refine k_lssF rfl rfl (by omega) ?_))
    exact w_roundX (.inl ⟨rfl, s, hsm, st, _, _, _, _, _, rfl⟩)
theorem call63 (h0 : Heap) (sp : SV) (p : Pol) (hp : IsD h0 sp (tms p.ts)) (kp : Pok p) (f : Int → Int) (up : Bool) (m : Mvf f up) (g : FuncId) (caps : List (Nat × Nat)) (kf : Mover h0 g caps f) :
    ∃ r h', Cal FT HKt 63 [.agg [.bool p.big, sp], .sc (.fn g caps)] h0 r h' ∧ Ext h0 h' ∧ IsPol h' r (movP f up p) := by
  refine Cal.of (F := a63) rfl rfl rfl ?_
  have lp := hp.len
  rw [tms_len] at lp
  have pl := kp.len
  by_cases hbp : p.big = true
  · have e : movP f up p = p := by unfold movP; rw [if_pos hbp]
    rw [e, hbp]
    have hpb : ∀ {h' : Heap}, Ext h0 h' → IsPol h' (.agg [.bool true, sp]) p := fun x => ⟨sp, by rw [hbp], hp.ext x⟩
    repeat' (first | refine w_seq ?_ | refine w_seqN ?_ | refine w_seqR ?_ | refine w_ret ?_ | refine w_ops ?_ | ((refine i_cond ?_); refine w_condT rfl ?_) | ((refine i_nil ?_); first | refine w_end1 rfl ?_ | refine w_end3 rfl rfl rfl ?_ | refine w_end4 rfl rfl rfl rfl ?_) | ((refine i_cons ?_); first | (have z := e1; refine k_newC ?_; intro h2 e2 c2; have d1 := c1.ext e2) | (refine k_boxC rfl ?_; intro h1 e1 c1) | refine k_fldA rfl ?_ | refine k_ldC0 rfl d1 ?_ | refine k_ldC rfl d1 ?_ | (refine k_stC rfl rfl c2 ?_; intro h3 w3)))
    exact ⟨.inr rfl, oK_cell rfl w3.cel.read ⟨w3.ext (e1.trans e2) e1.len, hpb (w3.ext (e1.trans e2) e1.len)⟩⟩
  have hbp' : p.big = false := by simpa using hbp
  rw [hbp']
  repeat' (first | refine w_seq ?_ | refine w_seqN ?_ | refine w_blk ?_ | refine w_skip ?_ | refine w_ops ?_ | ((refine i_cond ?_); refine w_condF rfl ?_) | ((refine i_nil ?_); first | refine w_end3 rfl rfl rfl ?_ | refine w_end4 rfl rfl rfl rfl ?_ | refine w_end6 rfl rfl rfl rfl rfl rfl ?_) | ((refine i_cons ?_); first | (have z := xB; refine k_newst rfl ?_; intro h5 e5 c5; have c2_5 := c2.ext (eB.trans e5); have d1_5 := (d1.ext eB).ext e5; have oS := oB.ext e5) | (have z := e1; refine k_newC ?_; intro h2 e2 c2; have d1 := c1.ext e2; have x2 := e1.trans e2) | (refine k_boxC rfl ?_; intro h1 e1 c1) | refine k_fldA rfl ?_ | refine k_ldC0 rfl d1 ?_ | refine k_ldC1 rfl d1 ?_ | refine k_ldC1 rfl d1_5 ?_ | refine k_len rfl lp ?_ | (refine k_mkD x2 rfl rfl (by simp only [bigN]; omega) ?_; intro S hB oB eB xB lB) | (refine k_bld rfl rfl ?_) | refine k_mv rfl ?_))
  have n2 := c2.lt
  have lB2 := eB.len
  have l1 := e1.len
  have l2 := e2.len
  have st0 : St63 h0 h5 h1.length hB.length S (mvT f (p.ts.take 0)) := ⟨xB.trans e5, c2_5, c5, oS.weaken x2.len⟩
  refine w_loop (I63 h0 h1.length hB.length (.fn g caps) sp f p.ts) (cK [1, 4, 5, 18, 19, 20] p.ts.length 20) (R63 h0 h1.length hB.length f p.ts) ⟨0, S, Nat.zero_le _, by simp, st0, rfl⟩ (round63 h0 h1.length hB.length g caps f kf sp p.ts hp pl kp.ex l1 (by omega) (by omega)) ?_
  rintro ex E' h6 (⟨rfl, s, hall, st, a, b, c, d, e, rfl⟩ | ⟨rfl, hns, e6, c4, rfl⟩)
  · have e : movP f up p = ⟨false, mvL f up p.ts⟩ := movP_fit hbp' hall
    rw [e]
    have ls := st.o.len
    rw [tms_len, List.length_map] at ls
    have c4 := st.c4
    have fin0 : mvL f up p.ts = mvT f p.ts → ∀ {h' : Heap}, Wr h6 h' h1.length (.bool false) s → Ext h0 h' ∧ IsPol h' (.agg [.bool false, s]) ⟨false, mvL f up p.ts⟩ := fun he h' w => ⟨w.ext st.e l1, s, rfl, by rw [he]; exact (st.o.wrC w).is⟩
    by_cases hlen : p.ts.length ≤ 1
    · have he : mvL f up p.ts = mvT f p.ts := by
        unfold mvL
        cases up
        · rw [if_neg (by simp)]
          match p.ts, hlen with
          | [], _ => rfl
          | [t], _ => rfl
        · rw [if_pos rfl]
      repeat' (first | refine w_seq ?_ | refine w_seqN ?_ | refine w_blkX ?_ | refine w_skip ?_ | refine w_ret ?_ | refine w_ops ?_ | refine w_opsD ?_ | refine d_one ?_ | refine d_nil ?_ | ((refine i_cond ?_); refine w_condF rfl ?_) | ((refine i_nil ?_); first | refine d_same ?_ | refine w_end1 rfl ?_ | refine w_end3 rfl rfl rfl ?_) | ((refine i_cons ?_); first | refine k_fldA rfl ?_ | refine k_ldC1 rfl st.c5 ?_ | refine k_len rfl ls ?_ | refine k_ldC rfl st.c5 ?_ | (refine k_stC rfl rfl c4 ?_; intro h7 w7) | refine k_skip rfl ?_ | refine k_mv rfl ?_ | refine k_pickF rfl rfl ?_ | refine k_gtrF rfl rfl (by omega) ?_))
      exact ⟨.inr rfl, oK_cell rfl w7.cel.read (fin0 he w7)⟩
    · obtain ⟨t0, ht0⟩ : ∃ t, p.ts[0]? = some t := ⟨_, List.getElem?_eq_getElem (by omega)⟩
      obtain ⟨t1, ht1⟩ : ∃ t, p.ts[1]? = some t := ⟨_, List.getElem?_eq_getElem (by omega)⟩
      have h01 : t0.1 < t1.1 := by
        have := List.pairwise_iff_getElem.1 kp.can.asc 0 1 (by omega) (by omega) (by omega)
        rw [(List.getElem?_eq_some_iff.1 ht0).2, (List.getElem?_eq_some_iff.1 ht1).2] at this
        exact this
      have hm := m t0.1 t1.1 h01
      obtain ⟨id, cap, es, r0⟩ := st.o.rd (i := 0) (p := tmP (f t0.1, t0.2)) (by simp [ht0])
      obtain ⟨id2, cap2, es2, r1⟩ := st.o.rd (i := 1) (p := tmP (f t1.1, t1.2)) (by simp [ht1])
      rw [es] at es2
      simp only [SV.slc.injEq, true_and] at es2
      obtain ⟨rfl, rfl⟩ := es2
      rw [tms_len, List.length_map] at es
      have r0' := (rd1 r0).1
      have r1' := (rd1 r1).1
      cases up
      · simp only [Bool.false_eq_true, if_false] at hm
        have k83 := call92 h0 h6 s (tms (mvT f p.ts)) (by rw [tms_len, List.length_map]; omega) st.o st.e
        have er : (tms (mvT f p.ts)).reverse = tms (mvL f false p.ts) := by
          unfold mvL
          rw [if_neg (by simp)]
          exact List.map_reverse.symm
        rw [er] at k83
        have n4 := st.o.cel st.c4
        have n5 := st.o.cel st.c5
        subst es
        repeat' (first | refine w_seq ?_ | refine w_seqN ?_ | refine w_blkX ?_ | refine w_ret ?_ | refine w_ops ?_ | refine w_opsD ?_ | refine d_one ?_ | refine d_nil ?_ | ((refine i_cond ?_); refine w_condT rfl ?_) | ((refine i_nil ?_); first | refine d_same ?_ | refine w_end1 rfl ?_ | refine w_end2 rfl rfl ?_ | refine w_end3 rfl rfl rfl ?_) | ((refine i_cons ?_); first | refine k_fldA rfl ?_ | (have z := f7; refine k_ldC rfl d5 ?_) | refine k_ldC1 rfl st.c5 ?_ | refine k_len rfl ls ?_ | refine k_idxA (esz := 2) (j := 0) rfl rfl (by omega) ?_ | refine k_idxA (esz := 2) (j := 1) rfl rfl (by omega) ?_ | refine k_ld rfl r0' ?_ | refine k_ld rfl r1' ?_ | (refine k_call rfl k83 ?_; rintro r h7 ⟨o7, x7, f7⟩; have d4 := f7 _ _ st.c4 n4; have d5 := f7 _ _ st.c5 n5) | (refine k_stC rfl rfl d4 ?_; intro h8 w8) | refine k_want rfl ?_ | refine k_mv rfl ?_ | refine k_pickT rfl rfl ?_ | refine k_gtrT rfl rfl (by omega) ?_))
        exact ⟨.inr rfl, oK_cell rfl w8.cel.read ⟨w8.ext x7 l1, _, rfl, (o7.wrC w8).is⟩⟩
      · simp only [if_true] at hm
        have he : mvL f true p.ts = mvT f p.ts := by unfold mvL; rw [if_pos rfl]
        subst es
        repeat' (first | refine w_seq ?_ | refine w_seqN ?_ | refine w_blkX ?_ | refine w_skip ?_ | refine w_ret ?_ | refine w_ops ?_ | refine w_opsD ?_ | refine d_one ?_ | refine d_nil ?_ | ((refine i_cond ?_); refine w_condF rfl ?_) | ((refine i_nil ?_); first | refine d_same ?_ | refine w_end1 rfl ?_ | refine w_end3 rfl rfl rfl ?_) | ((refine i_cons ?_); first | refine k_fldA rfl ?_ | refine k_ldC1 rfl st.c5 ?_ | refine k_len rfl ls ?_ | refine k_idxA (esz := 2) (j := 0) rfl rfl (by omega) ?_ | refine k_idxA (esz := 2) (j := 1) rfl rfl (by omega) ?_ | refine k_ld rfl r0' ?_ | refine k_ld rfl r1' ?_ | refine k_ldC rfl st.c5 ?_ | (refine k_stC rfl rfl c4 ?_; intro h7 w7) | refine k_want rfl ?_ | refine k_mv rfl ?_ | refine k_pickT rfl rfl ?_ | refine k_gtrT rfl rfl (by omega) ?_ | refine k_gtrF rfl rfl (by omega) ?_))
        exact ⟨.inr rfl, oK_cell rfl w7.cel.read (fin0 he w7)⟩
  · have e : movP f up p = bigP := by unfold movP; rw [if_neg hbp, if_neg hns]
    rw [e]
    repeat' (first | refine w_seqR ?_ | refine w_blkR ?_)
    exact ⟨.inr rfl, oK_cell rfl c4.read ⟨e6, .nilS, rfl, IsD.nil _⟩⟩
end Go.Proofs.YtofknpknogfijaaGreatDoor


namespace Go.Proofs.YtofknpknogfijaaGreatDoor
open Go.Ab
set_option linter.unusedVariables false
set_option linter.unusedSimpArgs false
set_option maxRecDepth 20000
set_option maxHeartbeats 8000000
attribute [local irreducible] wOps wA wSeq wBlk wRound wRoundI wOpsD wOpsS
set_option linter.unusedSectionVars false
variable [HB]

theorem mover60 {h0 : Heap} {q : Nat} {b : Int} (c : Cel1 h0 q (.int .i64 b)) (hb : b.natAbs ≤ 2097152) : Mover h0 64 [(q, 0)] fun e => e + b := fun H he e hx => by
  simp only [eM] at hx
  have c1 := c.ext he
  refine Cal.of (F := a64) rfl rfl rfl ?_
  repeat' (first | refine w_seq ?_ | refine w_seqN ?_ | refine w_ret ?_ | refine w_ops ?_ | ((refine i_nil ?_); first | refine w_end1 rfl ?_ | refine w_end2 rfl rfl ?_) | ((refine i_cons ?_); first | refine k_ldb rfl c1.at rfl ?_ | refine k_mv rfl ?_ | refine k_add rfl rfl (by omega) ?_))
  exact ⟨.inr rfl, rfl, rfl⟩
theorem mvf_add (b : Int) : Mvf (fun e => e + b) true := fun x y h => by simp; omega
theorem call28 (h0 : Heap) (sp : SV) (p : Pol) (hp : IsD h0 sp (tms p.ts)) (kp : Pok p) (b : Int) (hb : b.natAbs ≤ 2097152) :
    ∃ r h', Cal FT HKt 28 [.agg [.bool p.big, sp], .sc (.int .i64 b)] h0 r h' ∧ Ext h0 h' ∧ IsPol h' r (movP (fun e => e + b) true p) := by
  refine Cal.of (F := a28) rfl rfl rfl ?_
  have k57 := fun H (e : Ext h0 H) q (c : Cel1 H q (.int .i64 b)) => call63 H sp p (hp.ext e) kp (fun e => e + b) true (mvf_add b) 64 [(q, 0)] (mover60 c hb)
  have k35 := fun H => call50 H b 2097152 (by omega)
  have e6 : ((2097152 : Int)).toNat = 2097152 := rfl
  rw [e6, decide_eq_true hb] at k35
  generalize movP (fun e => e + b) true p = D at *
  repeat' (first | refine w_seq ?_ | refine w_seqN ?_ | refine w_skip ?_ | refine w_ret ?_ | refine w_ops ?_ | ((refine i_cond ?_); refine w_condF rfl ?_) | ((refine i_nil ?_); first | refine w_end1 rfl ?_ | refine w_end3 rfl rfl rfl ?_ | refine w_end4 rfl rfl rfl rfl ?_) | ((refine i_cons ?_); first | (have z := e2; refine k_newC ?_; intro h3 e3 c3; have d1 := (c1.ext e2).ext e3; have d2 := Cel1.ext c2 e3; have x3 := e1.trans (e2.trans e3)) | (have z := e1; refine k_box1 rfl ?_; intro h2 e2 c2) | (refine k_boxC rfl ?_; intro h1 e1 c1) | refine k_ldb rfl d2.at rfl ?_ | (refine k_call rfl (k35 _) ?_; rintro r _ ⟨rfl, rfl⟩) | refine k_ldC rfl d1 ?_ | (refine k_call rfl (k57 _ x3 _ d2) ?_; rintro r h4 ⟨e4, s, rfl, is⟩; have c3_4 := c3.ext e4) | (refine k_stC rfl rfl c3_4 ?_; intro h5 w5) | refine k_skip rfl ?_ | refine k_mv rfl ?_ | refine k_pickF rfl rfl ?_ | refine k_notT rfl ?_ | refine k_ok rfl rfl ?_))
  exact ⟨.inr rfl, oK_cell rfl w5.cel.read ⟨w5.ext (x3.trans e4) (Nat.le_trans e1.len e2.len), s, rfl, is.wrC w5⟩⟩

end Go.Proofs.YtofknpknogfijaaGreatDoor

