/- The law GaussShuffles, reckoned. -/
import Derived.Test.YtleoalcbgpjieaaDoorSH2
import Derived.Test.YtleoalcbgpjieaaDoorGR
namespace Go.Proofs.YtleoalcbgpjieaaDoor
open Go.Ab
set_option linter.unusedVariables false
set_option linter.unusedSimpArgs false
set_option maxRecDepth 20000
set_option maxHeartbeats 4000000
attribute [local irreducible] wOps wA wSeq wBlk wRound wRoundI wOpsD wOpsS

theorem visL_mv {n : Nat} {os : List Int} (L : List Nat) : (visL L).map (mvV n os) = visL (L.map (rnum (nuO n os))) := by
  unfold visL
  rw [List.map_map, List.map_map]
  refine List.map_congr_left fun h _ => ?_
  have e : ((h : Int) / 4).toNat = h / 4 := by omega
  simp only [Function.comp, mvV, e, Prod.mk.injEq, decide_eq_decide]
  unfold rnum
  omega
theorem mvC_mvd {n : Nat} {os : List Int} (Ls : List (List Nat)) : mvC n os (codeC Ls) = codeC (mvd (nuO n os) Ls) := by
  unfold mvC codeC mvd
  rw [List.map_map, List.map_reverse, List.map_map]
  congr 1
  refine List.map_congr_left fun L _ => ?_
  simp only [Function.comp]
  rw [visL_mv]
  unfold visL
  rw [rot1_map]
theorem cov_fits {xs ms : List Int} {l : Int} (hF : Front xs ms l) {Ls : List (List Nat)} (hC : Cov xs ms Ls) (hl : Ls.length ≤ 256) : GFits ⟨codeC Ls, xs, l⟩ := by
  have h3 := hF.n64
  have h4 := hF.four
  have h5 := hF.l0
  have h6 := hF.l64
  have hfl := hC.len hF
  refine ⟨by simp [codeC]; omega, ?_, by simp only; omega, by simp only; omega, fun v hv => ?_⟩
  · simp only [codeC_flat, List.length_map]; omega
  · simp only [codeC_flat] at hv
    obtain ⟨h, hh, rfl⟩ := List.mem_map.1 hv
    have := ((hC.mem h).1 hh).1
    simp only [visH]; omega
/-- gauss.Diagram of a code that draws a plane diagram. -/
theorem call19g (h0 : Heap) (Y Sg : SV) (xs ms : List Int) (l : Int) (Ls : List (List Nat)) (hF : Front xs ms l) (hC : Cov xs ms Ls) (hl : Ls.length ≤ 256) (hE : ∀ ps P, Parts ms xs.length ps P → 2 * (P : Int) + xs.length - (leasts ms ms.length).length = 0) (ic : IsCode h0 Y Sg ⟨codeC Ls, xs, l⟩) :
    ∃ v h', Cal FT HKt 19 [.agg [Y, Sg, .int .i64 l]] h0 v h' ∧ Ext h0 h' ∧ ∃ s' t', v = .tup [.agg [s', t', .int .i64 l], .sc (.int .i64 0)] ∧ IsInts h' s' xs ∧ IsInts h' t' ms := by
  refine Cal.of (F := a19) rfl rfl rfl ?_
  have h64 := hF.n64
  have hfit := cov_fits hF hC hl
  have hVG := cov_VG hF hC
  have k1 : ∀ H, Ext h0 H → ∃ v h', Cal FT HKt 16 [.agg [Y, Sg, .int .i64 l]] H v h' ∧ Ext H h' ∧ v = .sc (.bool true) := fun H e => by
    obtain ⟨v, h', c, e', b, rfl, q⟩ := call16 H Y Sg ⟨codeC Ls, xs, l⟩ hfit (ic.ext e)
    obtain rfl := q.2 hVG
    exact ⟨_, h', c, e', rfl⟩
  have k2 : ∀ H, Ext h0 H → ∃ v h', Cal FT HKt 37 [.agg [Y, Sg, .int .i64 l]] H v h' ∧ Ext H h' ∧ ∃ t, v = .sc t ∧ Own H h' t (ints ms) := fun H e => by
    obtain ⟨v, h', c, e', t, rfl, o⟩ := call37 H Y Sg ⟨codeC Ls, xs, l⟩ (ic.ext e) hfit hVG.2.2.2.2.1
    have : mtG xs (codeC Ls) (codeC Ls).length = ms := mtG_cov hF hC
    simp only [this] at o
    exact ⟨_, h', c, e', t, rfl, o⟩
  have kG : ∀ (H : Heap) (t : SV), IsInts H t ms → ∃ v h', Cal FT HKt 36 [.sc t] H v h' ∧ Ext H h' ∧ v = .sc (.int .i64 0) := fun H t ht => by
    obtain ⟨v, h', c, e, P, ps, hp, rfl⟩ := call36 H t ms xs.length ht hF.mates hF.inv hF.fits hF.n64
    rw [hE ps P hp] at c
    exact ⟨_, h', c, e, rfl⟩
  have kc := fun H (e : Ext h0 H) => call29 H Sg xs (IsSl.ext ic.s e) (by omega)
  repeat' (first | refine w_seq ?_ | refine w_seqN ?_ | refine w_skip ?_ | refine w_ret ?_ | refine w_ops ?_ | refine w_opsD ?_ | refine d_one ?_ | refine d_nil ?_ | ((refine i_cond ?_); refine w_condF rfl ?_) | ((refine i_nil ?_); first | refine d_same ?_ | refine d_ord ?_ | refine d_ext (by assumption) ?_ | refine w_end2 rfl rfl ?_ | refine w_end3 rfl rfl rfl ?_ | refine w_end4 rfl rfl rfl rfl ?_) | ((refine i_cons ?_); first | (refine k_box rfl rfl ?_; intro h1 e1 l1 b1) | (refine k_new3 ?_; intro h2 e2 l2 c2; have b2 := b1.ext e2) | (refine k_call rfl (k1 h2 (e1.trans e2)) ?_; rintro v h3 ⟨e3, rfl⟩; have b3 := b2.ext e3) | refine k_ldA rfl b3 rfl ?_ | refine k_ldA rfl b2 rfl ?_ | (refine k_call rfl (k2 h3 (e1.trans (e2.trans e3))) ?_; rintro v h4 ⟨e4, t, rfl, it⟩; have kg := kG h4 t (Ab.Own.ids (xs := ms) it)) | (refine k_call rfl kg ?_; rintro v h5 ⟨e5, rfl⟩; have b5 := b3.ext (e4.trans e5)) | refine k_fldA rfl ?_ | refine k_ldb rfl b6 rfl ?_ | refine k_ldb rfl b5 rfl ?_ | (refine k_call rfl (kc h5 (e1.trans (e2.trans (e3.trans (e4.trans e5))))) ?_; rintro v h6 ⟨e6, s6, rfl, i6, f6⟩; have b6 := b5.ext e6; have c6 := c2.ext (e3.trans (e4.trans (e5.trans e6)))) | refine k_bld rfl rfl ?_ | (refine k_st3 rfl rfl c6 ?_; intro h7 q7 c7) | refine k_mv rfl ?_ | refine k_notT rfl ?_ | refine k_neqF rfl rfl (by omega) ?_))
  have n1 := e1.len
  have n2 := e2.len
  have n3 := e3.len
  have n4 := e4.len
  have n5 := e5.len
  have x7 : Ext h0 h7 := by rw [q7]; exact (e1.trans (e2.trans (e3.trans (e4.trans (e5.trans e6))))).set (by omega) _
  have nt : NotAt t h1.length := notAt_of_le it (by omega)
  have ns : NotAt s6 h1.length := f6 _ (by omega)
  have kp : ∀ (j : Nat) (b : Blk), h6[j]? = some b → j ≠ h1.length → h7[j]? = some b := fun j b hj hn => by rw [q7, List.getElem?_set_ne (fun e => hn e.symm)]; exact hj
  refine ⟨.inr rfl, oK_cellt rfl c7.read rfl ⟨x7, s6, t, rfl, ?_, ?_⟩⟩
  · exact IsSl.keep i6 fun j b hj ht => kp j b hj fun e => by subst e; exact ht ns
  · exact IsSl.keep (IsSl.ext (Ab.Own.ids (xs := ms) it) (e5.trans e6)) fun j b hj ht => kp j b hj fun e => by subst e; exact ht nt

theorem call8 (h0 : Heap) (s : SV) (xs : List Int) (hx : IsInts h0 s xs) (m : SV) (ms : List Int) (hs : IsInts h0 m ms) (l : Int) (hl : -9223372036854775808 ≤ l ∧ l ≤ 9223372036854775807) (o : SV) (os : List Int) (ho : IsInts h0 o os) :
    ∃ v h', Cal FT HKt 8 [.agg [s, m, .int .i64 l], .sc o] h0 v h' ∧ v = .sc (.bool true) := by
  refine Cal.of (F := a8) rfl rfl rfl ?_
  have hxl : lenS false s = some (xs.length : Int) := IsSl.len hx
  have hol : lenS false o = some (os.length : Int) := IsSl.len ho
  have k1 := fun H (e : Ext h0 H) => call18 (HK := HKt) rfl rfl rfl rfl rfl H s m l xs ms (IsSl.ext hx e) (IsSl.ext hs e)
  by_cases h14 : xs.length ≤ 14
  · by_cases h28 : os.length ≤ 28
    · by_cases hV : PV xs ms l
      · have hF := hV.1
        have hsl := strs_len hF
        have l0 := hF.l0
        have l64 := hF.l64
        have h4 := hF.four
        have k26 := fun H (e : Ext h0 H) => call26 H s m o l xs ms os (IsSl.ext hx e) (IsSl.ext hs e) (IsSl.ext ho e) (by omega) hV
        repeat' (first | refine w_seq ?_ | refine w_seqN ?_ | refine w_skip ?_ | refine w_ops ?_ | ((refine i_cond ?_); refine w_condF rfl ?_) | ((refine i_nil ?_); first | refine w_end2 rfl rfl ?_ | refine w_end3 rfl rfl rfl ?_) | ((refine i_cons ?_); first | (refine k_box rfl rfl ?_; intro h1 e1 l1 b1) | (refine k_call rfl (awake_callT _) ?_; rintro v ha ⟨rfl, rfl⟩) | refine k_fldA rfl ?_ | refine k_ldb rfl b1 rfl ?_ | refine k_len rfl hxl ?_ | refine k_len rfl hol ?_ | (refine k_call rfl (k1 ha e1) ?_; rintro v h2 ⟨e2, bb, rfl, q⟩; obtain rfl := q.2 hV; have b2 := b1.ext e2) | refine k_ldA rfl b2 rfl ?_ | refine k_ldA rfl b1 rfl ?_ | (refine k_call rfl (k26 h2 (e1.trans e2)) ?_; rintro v3 h3 ⟨e3, hR⟩; have b3 := b2.ext e3) | refine k_want rfl ?_ | refine k_mv rfl ?_ | refine k_pickF rfl rfl ?_ | refine k_notT rfl ?_ | refine k_gtrF rfl rfl (by omega) ?_))
        rcases hR with ⟨hp, S, M, rfl, iS, iM⟩ | rfl
        · have hRen := hp.ren hF
          have hpl := hp.1
          obtain ⟨_, _, _, _, P0, ps0, hpar, _⟩ := call36 h0 m ms xs.length hs hF.mates hF.inv hF.fits hF.n64
          have heul := euler hF.mates hF.inv hF.fits hpar hV.2
          have k2 := fun H (e : Ext h0 H) => call10 H s m l xs ms (IsSl.ext hx e) (IsSl.ext hs e)
          have e03 := e1.trans (e2.trans e3)
          repeat' (first | refine w_seq ?_ | refine w_seqN ?_ | refine w_blk ?_ | refine w_skip ?_ | refine w_ops ?_ | ((refine i_cond ?_); refine w_condF rfl ?_) | ((refine i_nil ?_); first | refine w_end4 rfl rfl rfl rfl ?_ | refine w_end5 rfl rfl rfl rfl rfl ?_ | refine w_end7 rfl rfl rfl rfl rfl rfl rfl ?_) | ((refine i_cons ?_); first | (have z := b5; refine k_newst3 rfl ?_; intro h7 e7 b7) | (refine k_newst3 rfl ?_; intro h5 e5 b5; have b5' := b3.ext e5) | refine k_ldA rfl b5' rfl ?_ | (refine k_call rfl (k2 h5 (e03.trans e5)) ?_; rintro v h6 ⟨e6, hR⟩; obtain ⟨X, Sc, rfl, ic⟩ := (hR.resolve_right fun h => h.1 hV).2) | refine k_len rfl hol ?_ | (refine k_mkO (h0 := h7) (Ext.refl _) rfl rfl (by simp only [bigN]; omega) ?_; intro t h8 o8 e8 e8' l8) | refine k_mv rfl ?_ | refine k_neqF rfl rfl (by omega) ?_ | refine k_ok rfl rfl ?_))
          have ezo : ((os.length : Int)).toNat = xs.length := by omega
          rw [ezo] at o8
          have o80 : Own h7 h8 t (ints (numT 0 xs.length os 0)) := by simpa [ints, numT] using o8
          have e07 := e03.trans (e5.trans (e6.trans e7))
          rw [hpl]
          refine w_loop (I8a h7 o t h3.length h6.length xs.length os) (cnt xs.length 59) (R8a h7 t h3.length h6.length xs.length os) ⟨0, Nat.zero_le _, e8, o80, rfl⟩ (round8a h7 o t h3.length h6.length xs.length os (by omega) (IsSl.ext ho e07) hp) ?_
          rintro ex E' h9 ⟨rfl, e9, o9, u1, u2, u3, u4, rfl⟩
          have b79 := b7.ext e9
          have lSc : lenS false Sc = some (xs.length : Int) := IsSl.len ic.s
          repeat' (first | refine w_seq ?_ | refine w_seqN ?_ | refine w_blkX ?_ | refine w_ops ?_ | refine w_opsD ?_ | refine d_one ?_ | refine d_nil ?_ | ((refine i_nil ?_); first | refine d_same ?_ | refine d_ord ?_ | refine d_ext (by assumption) ?_ | refine w_end5 rfl rfl rfl rfl rfl ?_) | ((refine i_cons ?_); first | refine k_fldA rfl ?_ | refine k_ldb rfl b10 rfl ?_ | refine k_ldb rfl b79 rfl ?_ | refine k_len rfl lSc ?_ | (refine k_mkO (h0 := h9) (Ext.refl _) rfl rfl (by simp only [bigN]; omega) ?_; intro Sg h10 o10 e10 e10' l10; have b10 := b79.ext e10) | refine k_bld rfl rfl ?_ | (refine k_new3 ?_; intro h11 e11 l11 c11) | (refine k_st3e rfl rfl c11 (hx := h10) e11 (Nat.le_refl _) ?_; intro h12 e12 c12; have b12 := b10.ext e12)))
          have ez : ((xs.length : Int)).toNat = xs.length := by omega
          rw [ez] at o10
          have o100 : Own h9 h12 Sg (ints (sgT xs.length os xs 0)) := by
            have := o10.ext e12
            simpa [ints, sgT] using this
          have nSg : NotAt Sg h10.length := isSl_not o10.sl (Nat.le_refl _)
          have it9 : IsInts h9 t (numT 0 xs.length os xs.length) := Ab.Own.ids (xs := numT 0 xs.length os xs.length) o9
          have ic9 := ic.ext (e7.trans e9)
          have st8 : St8s h9 h12 h10.length Sg l (sgT xs.length os xs 0) := ⟨e10.trans e12, c12, o100, nSg⟩
          repeat' (first | refine w_seqN ?_ | refine w_blk ?_ | ((refine i_nil ?_); refine w_end8 rfl rfl rfl rfl rfl rfl rfl rfl ?_) | ((refine i_cons ?_); first | refine k_ldb rfl b12 rfl ?_ | refine k_len rfl lSc ?_ | refine k_mv rfl ?_))
          refine w_loop (I8s h9 t Sc Sg l h3.length h6.length h10.length xs os) (cnt xs.length 79) (R8s h9 t Sg l h3.length h6.length h10.length xs os) ⟨0, Nat.zero_le _, st8, rfl⟩ (round8s h9 t Sc Sg l h3.length h6.length h10.length xs os (by omega) ic9.s it9 hp) ?_
          rintro ex E' h13 ⟨rfl, s13, u5, u6, u7, u8, rfl⟩
          have b13 := b79.ext s13.e
          have lX : lenS false X = some ((codeC (strs xs ms)).length : Int) := ic.x.len
          have hcl : (codeC (strs xs ms)).length ≤ 256 := by simp [codeC]; exact hsl
          repeat' (first | refine w_seq ?_ | refine w_seqN ?_ | refine w_blk ?_ | refine w_blkX ?_ | refine w_ops ?_ | ((refine i_nil ?_); refine w_end7 rfl rfl rfl rfl rfl rfl rfl ?_) | ((refine i_cons ?_); first | refine k_fldA rfl ?_ | refine k_ldb rfl b13 rfl ?_ | refine k_len rfl lX ?_ | refine k_mv rfl ?_))
          have n9 := e9.len
          have n10 := e10.len
          have n13 := s13.e.len
          have n12 := e12.len
          have l12 := s13.c.lt
          have h7q : h7.length ≤ h10.length := by omega
          have cX : CompsN h13 h10.length X (codeC (strs xs ms)) := by
            obtain ⟨ss, x1, x2, x3⟩ := ic.x
            have ee := e7.trans (e9.trans s13.e)
            have n67 := e7.len
            refine ⟨ss, x1, IsSl.ext x2 ee, isSl_not x2 (by omega), fun i t vs a b => ⟨(x3 i t vs a b).ext ee, isSl_not (x3 i t vs a b) (by omega)⟩⟩
          have tq : NotAt t h10.length := isSl_not o9.sl (by omega)
          have smC : StM h13 h13 h10.length .nilS Sg l (mvC xs.length os ((codeC (strs xs ms)).take 0)) := ⟨Nat.le_refl _, l12, fun _ _ h _ => h, s13.c, [], by simp [mvC], .inl ⟨rfl, rfl, rfl⟩, fsh_nil h13 _ l12, by simp⟩
          have hVG := codeG_VG hF
          have hstr := strs_small hF
          refine w_loop (I8c h13 h3.length h10.length xs.length os X t Sg l (codeC (strs xs ms))) (cnt (codeC (strs xs ms)).length 96) (R8c h13 h3.length h10.length xs.length os Sg l (codeC (strs xs ms))) ⟨0, .nilS, Nat.zero_le _, smC, rfl⟩ (round8c h13 h3.length h10.length xs.length os X t Sg l (codeC (strs xs ms)) cX (IsSl.ext it9 s13.e) tq hp (by omega) (fun vs hvs => ⟨hVG.2.2.2.1 vs hvs, ?_, fun v hv => hVG.2.2.2.2.1 v (List.mem_flatten.2 ⟨vs, hvs, hv⟩)⟩)) ?_
          · obtain ⟨L, hL, rfl⟩ := List.mem_map.1 hvs
            rw [visL_len]; have := (hstr L hL).1; omega
          rintro ex E' h14' ⟨rfl, Y, u9, u10, u11, u12, u13, s14, rfl⟩
          have hC := strs_cov hF
          have hC' := hRen.cov hF hC fun L hL => by
            unfold strs at hL
            obtain ⟨z, hz, rfl⟩ := List.mem_map.1 hL
            exact ⟨z, (starts_mem.1 hz).1, (cyc_is hF.mates hF.inv (starts_mem.1 hz).1).1⟩
          have iSg : IsInts h14' Sg (rnX os xs) := IsSl.keep (Ab.Own.ids (xs := rnX os xs) s13.x) fun j b hj hn => s14.kp j b hj fun e => by subst e; exact hn nSg
          have ic14 : IsCode h14' Y Sg ⟨codeC (mvd (nuO xs.length os) (strs xs ms)), rnX os xs, l⟩ := ⟨by rw [← mvC_mvd]; exact s14.x.is, iSg⟩
          have k19 := call19g h14' Y Sg (rnX os xs) (rnMs os ms xs.length) l _ (hRen.front hF) hC' (by simp [mvd]; omega) (fun ps P hq => by
            have h1 := hRen.parts_eq hF hpar hq
            have h2 := hRen.leasts_eq hF
            have h3 := hRen.lx
            rw [h1, h2, h3]; exact heul) ic14
          have c14 := s14.c
          repeat' (first | refine w_seq ?_ | refine w_seqN ?_ | refine w_blkX ?_ | refine w_ops ?_ | ((refine i_nil ?_); refine w_end4 rfl rfl rfl rfl ?_) | ((refine i_cons ?_); first | refine k_ld3 rfl c14 ?_ | (refine k_call rfl k19 ?_; rintro v h15 ⟨e15, s5, t5, rfl, i5, j5⟩) | (refine k_newst3 rfl ?_; intro h16 e16 b16) | refine k_want rfl ?_ | refine k_mv rfl ?_ | refine k_pickT rfl rfl ?_ | refine k_eqlT rfl rfl (by omega) ?_ | refine k_ok rfl rfl ?_))
          have ee := e5.trans (e6.trans (e7.trans (e9.trans s13.e)))
          have n3 := e5.len
          have n5 := e6.len
          have n6 := e7.len
          have q3 : h3.length < h10.length := by obtain ⟨_, _, z⟩ := b5; have := (List.getElem?_eq_some_iff.1 z).1; omega
          have kp : ∀ (j : Nat) (b : Blk), h13[j]? = some b → j ≠ h10.length → h16[j]? = some b := fun j b hj hn => (e15.trans e16).get _ _ (s14.kp j b hj hn)
          have b516 : Blk.At h16 h3.length [S, M, .int .i64 l] := by
            obtain ⟨r1, z1, g1⟩ := b5
            exact ⟨r1, z1, kp _ _ ((e6.trans (e7.trans (e9.trans s13.e))).get _ _ g1) (by omega)⟩
          have iS16 : IsInts h16 S (rnX os xs) := IsSl.keep (IsSl.ext iS ee) fun j b hj hn => kp j b hj fun e => by subst e; exact hn (isSl_not iS (by omega))
          have iM16 : IsInts h16 M (rnMs os ms xs.length) := IsSl.keep (IsSl.ext iM ee) fun j b hj hn => kp j b hj fun e => by subst e; exact hn (isSl_not iM (by omega))
          have k24 := call24 h16 s5 t5 S M l (rnX os xs) (rnMs os ms xs.length) (IsSl.ext i5 e16) (IsSl.ext j5 e16) iS16 iM16 (by simp [rnX]; omega) (by simp [rnMs]; omega)
          repeat' (first | refine w_seqN ?_ | refine w_ret ?_ | ((refine i_nil ?_); refine w_end1 rfl ?_) | ((refine i_cons ?_); first | refine k_ldA rfl b516 rfl ?_ | refine k_ldA rfl b16 rfl ?_ | (refine k_call rfl k24 ?_; rintro v h17 ⟨rfl, e17⟩) | refine k_want rfl ?_ | refine k_mv rfl ?_ | refine k_pickT rfl rfl ?_))
          exact ⟨.inr rfl, rfl⟩
        · repeat' (first | refine w_seq ?_ | refine w_seqN ?_ | refine w_seqR ?_ | refine w_ret ?_ | refine w_ops ?_ | ((refine i_cond ?_); refine w_condT rfl ?_) | ((refine i_nil ?_); first | refine w_end1 rfl ?_ | refine w_end4 rfl rfl rfl rfl ?_) | ((refine i_cons ?_); first | (refine k_newst3 rfl ?_; intro hb eb bb) | refine k_mv rfl ?_ | refine k_neqT rfl rfl (by omega) ?_ | refine k_ok rfl rfl ?_))
          exact ⟨.inr rfl, rfl⟩
      · have hbF : ∀ bb : Bool, (bb = true ↔ PV xs ms l) → bb = false := fun bb q => by cases bb with
          | false => rfl
          | true => exact absurd (q.1 rfl) hV
        repeat' (first | refine w_seq ?_ | refine w_seqN ?_ | refine w_seqR ?_ | refine w_ret ?_ | refine w_ops ?_ | ((refine i_cond ?_); refine w_condT rfl ?_) | ((refine i_nil ?_); first | refine w_end1 rfl ?_ | refine w_end2 rfl rfl ?_ | refine w_end3 rfl rfl rfl ?_) | ((refine i_cons ?_); first | (refine k_box rfl rfl ?_; intro h1 e1 l1 b1) | (have e2' := e2; refine k_call rfl (awake_callT _) ?_; rintro v hc ⟨rfl, rfl⟩) | (refine k_call rfl (awake_callT _) ?_; rintro v ha ⟨rfl, rfl⟩) | refine k_fldA rfl ?_ | refine k_ldb rfl b1 rfl ?_ | refine k_len rfl hxl ?_ | refine k_len rfl hol ?_ | (refine k_call rfl (k1 ha e1) ?_; rintro v h2 ⟨e2, bb, rfl, q⟩; obtain rfl := hbF _ q; have b2 := b1.ext e2) | refine k_ldA rfl b1 rfl ?_ | refine k_want rfl ?_ | refine k_mv rfl ?_ | refine k_pickF rfl rfl ?_ | refine k_notT rfl ?_ | refine k_notF rfl ?_ | refine k_gtrF rfl rfl (by omega) ?_))
        exact ⟨.inr rfl, rfl⟩
    · repeat' (first | refine w_seq ?_ | refine w_seqN ?_ | refine w_seqR ?_ | refine w_ret ?_ | refine w_ops ?_ | ((refine i_cond ?_); refine w_condT rfl ?_) | ((refine i_nil ?_); first | refine w_end1 rfl ?_ | refine w_end2 rfl rfl ?_ | refine w_end3 rfl rfl rfl ?_) | ((refine i_cons ?_); first | (refine k_box rfl rfl ?_; intro h1 e1 l1 b1) | (refine k_call rfl (awake_callT _) ?_; rintro v ha ⟨rfl, rfl⟩) | refine k_fldA rfl ?_ | refine k_ldb rfl b1 rfl ?_ | refine k_len rfl hxl ?_ | refine k_len rfl hol ?_ | refine k_skip rfl ?_ | refine k_want rfl ?_ | refine k_mv rfl ?_ | refine k_pickT rfl rfl ?_ | refine k_pickF rfl rfl ?_ | refine k_notT rfl ?_ | refine k_gtrT rfl rfl (by omega) ?_ | refine k_gtrF rfl rfl (by omega) ?_))
      exact ⟨.inr rfl, rfl⟩
  · repeat' (first | refine w_seq ?_ | refine w_seqN ?_ | refine w_seqR ?_ | refine w_ret ?_ | refine w_ops ?_ | ((refine i_cond ?_); refine w_condT rfl ?_) | ((refine i_nil ?_); first | refine w_end1 rfl ?_ | refine w_end2 rfl rfl ?_ | refine w_end3 rfl rfl rfl ?_) | ((refine i_cons ?_); first | (refine k_box rfl rfl ?_; intro h1 e1 l1 b1) | (refine k_call rfl (awake_callT _) ?_; rintro v ha ⟨rfl, rfl⟩) | refine k_fldA rfl ?_ | refine k_ldb rfl b1 rfl ?_ | refine k_len rfl hxl ?_ | refine k_skip rfl ?_ | refine k_want rfl ?_ | refine k_mv rfl ?_ | refine k_pickT rfl rfl ?_ | refine k_pickF rfl rfl ?_ | refine k_notT rfl ?_ | refine k_gtrT rfl rfl (by omega) ?_))
    exact ⟨.inr rfl, rfl⟩
end Go.Proofs.YtleoalcbgpjieaaDoor
