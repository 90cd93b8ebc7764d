/- Components and dowker.Of of a diagram of one strand: contracts. -/
import Derived.Test.YtooafhbjbpaacaaS4
import Derived.Test.YtooafhbjbpaacaaD1
import Derived.Test.YtooafhbjbpaacaaDP7
namespace Go.Proofs.Ytooafhbjbpaacaa
open Go.Ab
set_option linter.unusedVariables false
set_option linter.unusedSimpArgs false
set_option maxRecDepth 20000
set_option maxHeartbeats 4000000
attribute [local irreducible] wOps wA wSeq wBlk wRound wRoundI wOpsD wOpsS
variable {HK : FuncId → Option Hook}

theorem one_str {h0 h : Heap} {o : SV} {L : List Nat} (i : IsStrsF h0 h o [L]) : ∃ id cap f, o = .slc id 0 1 cap ∧ lenS false o = some 1 ∧ readN h id (0 + (0 : Int).toNat * 1) 1 = some [f] ∧ IsStr h f L := by
  obtain ⟨fs, h1, h2⟩ := i
  have hl := h2.length
  cases fs with
  | nil => simp at hl
  | cons f t =>
    cases t with
    | cons g t => simp at hl
    | nil =>
      obtain ⟨id, cap, e, hr⟩ := h1.rd (i := 0) (v := f) rfl
      have lo := Own.len h1
      obtain ⟨M, hM, q⟩ := h2.get (i := 0) (a := f) rfl
      simp at hM
      subst hM
      exact ⟨id, cap, f, e, lo, hr, q.1⟩
/-! ### Components -/
/-! ### Of -/
def I11a (hb : Heap) (o f u : SV) (n : Nat) (S : Nat → Nat) (E : Env) (h : Heap) : Prop := ∃ j : Nat, j ≤ 2 * n ∧ Ext hb h ∧ Own hb h u (ints (evD n S j)) ∧
  E = [(4, some (.sc (.int .i64 (n : Nat)))), (5, some (.sc o)), (6, some (.sc u)), (33, some (.sc f)), (34, some (.sc (.int .i64 ((2 * n : Nat) : Int)))), (35, some (.sc (.int .i64 (j : Nat))))]
def R11a (hb : Heap) (o f u : SV) (n : Nat) (S : Nat → Nat) (ex : Ex) (E : Env) (h : Heap) : Prop := ex = .ex 0 ∧ Ext hb h ∧ Own hb h u (ints (evD n S (2 * n))) ∧ ∃ a b c d,
  E = [(4, some (.sc (.int .i64 (n : Nat)))), (5, some (.sc o)), (6, some (.sc u)), (33, a), (34, b), (35, c), (36, d)]
theorem round11a (hb : Heap) (o f u : SV) (n : Nat) (S : Nat → Nat) (hn : n ≤ 64) (s : Str n S) (hf : IsStr hb f ((List.range (2 * n)).map S)) (hS : ∀ j, j < 2 * n → S j < 4 * n) (E : Env) (h : Heap) (hI : I11a hb o f u n S E h) :
    wA FT HK b11L0 (E.keep [4, 5, 6, 33, 34, 35]) h (wRound (I11a hb o f u n S) (cntD (2 * n) 35) (cntD (2 * n) 35 E h) (R11a hb o f u n S)) := by
  obtain ⟨j, hj, e, ow, rfl⟩ := hI
  by_cases hlt : j < 2 * n
  · have hx : ((List.range (2 * n)).map S)[j]? = some (S j) := by simp [hlt]
    obtain ⟨id, off, cap, rfl, hr⟩ := (hf.ext e).at hx
    have hSj := hS j hlt
    have hlen := evD_len n S j
    rw [show ((List.range (2 * n)).map S).length = 2 * n by simp]
    by_cases hp : (j + 1) % 2 = 0
    · have en : evD n S (j + 1) = (evD n S j).set (S j / 4) (if S j % 2 = 1 then -((j : Int) + 1) else (j : Int) + 1) := by
        conv => lhs; unfold evD
        rw [if_pos hp]
      obtain ⟨id2, cap2, h2, rfl, w2, o2, e2, f2, l2⟩ := Own.wr e ow (i := S j / 4) (by simp [ints, hlen]; omega) (.int .i64 ((j : Int) + 1))
      have hll : (ints (evD n S j)).length = n := by simp [ints, hlen]
      rw [hll] at o2 ow f2 ⊢
      have i1 : (((S j : Nat) : Int) / 4).toNat = S j / 4 := by omega
      rw [← i1] at w2
      by_cases hq : S j % 2 = 1
      · obtain ⟨id3, cap3, h3, e3', w3, o3, e3, f3, l3⟩ := Own.wr e2 o2 (i := S j / 4) (by simp [ints, hlen]; omega) (.int .i64 (-((j : Int) + 1)))
        simp only [List.length_set, hll] at e3'
        cases e3'
        rw [← i1] at w3
        rw [if_pos hq] at en
        have o4 : Own hb h3 (.slc id2 0 n cap2) (ints (evD n S (j + 1))) := by
          rw [en]; simpa [ints, List.map_set, List.set_set] using o3
        generalize S j = x at *
        repeat' (first | refine w_seq ?_ | refine w_seqN ?_ | refine w_blk ?_ | refine w_blkN ?_ | refine w_skip ?_ | refine w_ops ?_ | ((refine i_cond ?_); refine w_condT rfl ?_) | ((refine i_nil ?_); first | refine w_end6 rfl rfl rfl rfl rfl rfl ?_ | refine w_end7 rfl rfl rfl rfl rfl rfl rfl ?_ | refine w_end8 rfl rfl rfl rfl rfl rfl rfl rfl ?_ | refine w_end9 rfl rfl rfl rfl rfl rfl rfl rfl rfl ?_) | ((refine i_cons ?_); first | refine k_idxA (esz := 1) rfl rfl (by omega) ?_ | refine k_ld rfl hr ?_ | refine k_st rfl rfl w2 ?_ | refine k_st rfl rfl w3 ?_ | (refine k_quo rfl rfl (by omega) ?_) | refine k_mv rfl ?_ | refine k_add rfl rfl (by omega) ?_ | refine k_neg rfl (by omega) ?_ | refine k_rem rfl rfl (by omega) ?_ | refine k_lssT rfl rfl (by omega) ?_ | refine k_eqlT rfl rfl (by omega) ?_))
        exact w_roundN ⟨j + 1, by omega, e3, o4, rfl⟩ (by simp [cntD, Env.get]; omega)
      · rw [if_neg hq] at en
        have o4 : Own hb h2 (.slc id2 0 n cap2) (ints (evD n S (j + 1))) := by
          rw [en]; simpa [ints, List.map_set] using o2
        generalize S j = x at *
        repeat' (first | refine w_seq ?_ | refine w_seqN ?_ | refine w_blk ?_ | refine w_blkN ?_ | refine w_skip ?_ | refine w_ops ?_ | ((refine i_cond ?_); first | refine w_condT rfl ?_ | refine w_condF rfl ?_) | ((refine i_nil ?_); first | refine w_end6 rfl rfl rfl rfl rfl rfl ?_ | refine w_end7 rfl rfl rfl rfl rfl rfl rfl ?_ | refine w_end8 rfl rfl rfl rfl rfl rfl rfl rfl ?_ | refine w_end9 rfl rfl rfl rfl rfl rfl rfl rfl rfl ?_) | ((refine i_cons ?_); first | refine k_idxA (esz := 1) rfl rfl (by omega) ?_ | refine k_ld rfl hr ?_ | refine k_st rfl rfl w2 ?_ | (refine k_quo rfl rfl (by omega) ?_) | refine k_mv rfl ?_ | refine k_add rfl rfl (by omega) ?_ | refine k_rem rfl rfl (by omega) ?_ | refine k_lssT rfl rfl (by omega) ?_ | refine k_eqlT rfl rfl (by omega) ?_ | refine k_eqlF rfl rfl (by omega) ?_))
        exact w_roundN ⟨j + 1, by omega, e2, o4, rfl⟩ (by simp [cntD, Env.get]; omega)
    · have en : evD n S (j + 1) = evD n S j := by
        conv => lhs; unfold evD
        rw [if_neg hp]
      generalize S j = x at *
      repeat' (first | refine w_seq ?_ | refine w_seqN ?_ | refine w_blk ?_ | refine w_blkN ?_ | refine w_skip ?_ | refine w_ops ?_ | ((refine i_cond ?_); first | refine w_condT rfl ?_ | refine w_condF rfl ?_) | ((refine i_nil ?_); first | refine w_end6 rfl rfl rfl rfl rfl rfl ?_ | refine w_end7 rfl rfl rfl rfl rfl rfl rfl ?_ | refine w_end8 rfl rfl rfl rfl rfl rfl rfl rfl ?_ | refine w_end9 rfl rfl rfl rfl rfl rfl rfl rfl rfl ?_) | ((refine i_cons ?_); first | refine k_idxA (esz := 1) rfl rfl (by omega) ?_ | refine k_ld rfl hr ?_ | refine k_mv rfl ?_ | refine k_add rfl rfl (by omega) ?_ | refine k_rem rfl rfl (by omega) ?_ | refine k_lssT rfl rfl (by omega) ?_ | refine k_eqlF rfl rfl (by omega) ?_))
      exact w_roundN ⟨j + 1, by omega, e, by rw [en]; exact ow, rfl⟩ (by simp [cntD, Env.get]; omega)
  · have : j = 2 * n := by omega
    subst this
    repeat' (first | refine w_seq ?_ | refine w_seqN ?_ | refine w_seqX ?_ | refine w_exit ?_ | refine w_ops ?_ | ((refine i_cond ?_); refine w_condF rfl ?_) | ((refine i_nil ?_); refine w_end7 rfl rfl rfl rfl rfl rfl rfl ?_) | ((refine i_cons ?_); refine k_lssF rfl rfl (by omega) ?_))
    exact w_roundX ⟨rfl, e, ow, _, _, _, _, rfl⟩
def I11b (hb : Heap) (f u : SV) (n : Nat) (S : Nat → Nat) (E : Env) (h : Heap) : Prop := ∃ (j : Nat) (w : SV), j ≤ 2 * n ∧ Ext hb h ∧ Own hb h w (ints (cdD n S j)) ∧
  E = [(6, some (.sc u)), (10, some (.sc w)), (64, some (.sc f)), (65, some (.sc (.int .i64 ((2 * n : Nat) : Int)))), (66, some (.sc (.int .i64 (j : Nat))))]
def R11b (hb : Heap) (f u : SV) (n : Nat) (S : Nat → Nat) (ex : Ex) (E : Env) (h : Heap) : Prop := ex = .ex 2 ∧ Ext hb h ∧ ∃ w a b c d e, Own hb h w (ints (cdD n S (2 * n))) ∧
  E = [(6, a), (10, some (.sc w)), (64, b), (65, c), (66, d), (67, e)]
theorem round11b (hb : Heap) (f u : SV) (n : Nat) (S : Nat → Nat) (hn : n ≤ 64) (hf : IsStr hb f ((List.range (2 * n)).map S)) (hu : IsInts hb u (evD n S (2 * n))) (hS : ∀ j, j < 2 * n → S j < 4 * n) (E : Env) (h : Heap) (hI : I11b hb f u n S E h) :
    wA FT HK b11L1 (E.keep [6, 10, 64, 65, 66]) h (wRound (I11b hb f u n S) (cntD (2 * n) 66) (cntD (2 * n) 66 E h) (R11b hb f u n S)) := by
  obtain ⟨j, w, hj, e, ow, rfl⟩ := hI
  by_cases hlt : j < 2 * n
  · have hx : ((List.range (2 * n)).map S)[j]? = some (S j) := by simp [hlt]
    obtain ⟨id, off, cap, rfl, hr⟩ := (hf.ext e).at hx
    have hSj := hS j hlt
    have hlen := evD_len n S (2 * n)
    rw [show ((List.range (2 * n)).map S).length = 2 * n by simp]
    by_cases hp : j % 2 = 0
    · have en : cdD n S (j + 1) = cdD n S j ++ [(evD n S (2 * n)).getD (S j / 4) 0] := by
        conv => lhs; unfold cdD
        rw [if_pos hp]
      have hy : (evD n S (2 * n))[S j / 4]? = some ((evD n S (2 * n)).getD (S j / 4) 0) := by
        rw [List.getD_eq_getElem?_getD, List.getElem?_eq_getElem (by omega)]; rfl
      obtain ⟨id2, off2, cap2, rfl, hr2'⟩ := IsInts.at hu hy
      have hr2 := readN_extD e hr2'
      have hwl : (ints (cdD n S j)).length = (j + 1) / 2 := by rw [List.length_map, cdD_len]
      rw [hlen] at hu ⊢
      have i1 : (((S j : Nat) : Int) / 4).toNat = S j / 4 := by omega
      generalize (evD n S (2 * n)).getD (S j / 4) 0 = y at *
      rw [← i1] at hr2
      generalize S j = x at *
      repeat' (first | refine w_seq ?_ | refine w_seqN ?_ | refine w_blk ?_ | refine w_blkN ?_ | refine w_skip ?_ | refine w_ops ?_ | ((refine i_cond ?_); refine w_condT rfl ?_) | ((refine i_nil ?_); first | refine w_end5 rfl rfl rfl rfl rfl ?_ | refine w_end6 rfl rfl rfl rfl rfl rfl ?_ | refine w_end7 rfl rfl rfl rfl rfl rfl rfl ?_) | ((refine i_cons ?_); first | refine k_idxA (esz := 1) rfl rfl (by omega) ?_ | refine k_ld rfl hr ?_ | refine k_ld rfl hr2 ?_ | (refine k_quo rfl rfl (by omega) ?_) | (refine k_push e ow rfl rfl (by rw [hwl]; simp only [bigN]; omega) ?_; intro w' h2 o2 e2 f2) | refine k_mv rfl ?_ | refine k_add rfl rfl (by omega) ?_ | refine k_rem rfl rfl (by omega) ?_ | refine k_lssT rfl rfl (by omega) ?_ | refine k_eqlT rfl rfl (by omega) ?_))
      exact w_roundN ⟨j + 1, w', by omega, e2, by rw [en]; simpa [ints] using o2, rfl⟩ (by simp [cntD, Env.get]; omega)
    · have en : cdD n S (j + 1) = cdD n S j := by
        conv => lhs; unfold cdD
        rw [if_neg hp]
      generalize S j = x at *
      repeat' (first | refine w_seq ?_ | refine w_seqN ?_ | refine w_blk ?_ | refine w_blkN ?_ | refine w_skip ?_ | refine w_ops ?_ | ((refine i_cond ?_); first | refine w_condT rfl ?_ | refine w_condF rfl ?_) | ((refine i_nil ?_); first | refine w_end5 rfl rfl rfl rfl rfl ?_ | refine w_end6 rfl rfl rfl rfl rfl rfl ?_ | refine w_end7 rfl rfl rfl rfl rfl rfl rfl ?_) | ((refine i_cons ?_); first | refine k_idxA (esz := 1) rfl rfl (by omega) ?_ | refine k_ld rfl hr ?_ | refine k_mv rfl ?_ | refine k_add rfl rfl (by omega) ?_ | refine k_rem rfl rfl (by omega) ?_ | refine k_lssT rfl rfl (by omega) ?_ | refine k_eqlF rfl rfl (by omega) ?_))
      exact w_roundN ⟨j + 1, w, by omega, e, by rw [en]; exact ow, rfl⟩ (by simp [cntD, Env.get]; omega)
  · have : j = 2 * n := by omega
    subst this
    repeat' (first | refine w_seq ?_ | refine w_seqN ?_ | refine w_seqX ?_ | refine w_exit ?_ | refine w_ops ?_ | ((refine i_cond ?_); refine w_condF rfl ?_) | ((refine i_nil ?_); refine w_end6 rfl rfl rfl rfl rfl rfl ?_) | ((refine i_cons ?_); refine k_lssF rfl rfl (by omega) ?_))
    exact w_roundX ⟨rfl, e, w, _, _, _, _, _, ow, rfl⟩
theorem call11 (hk11 : HK 11 = none) (hk28 : HK 28 = none) (hk26 : HK 26 = none) (hk37 : HK 37 = none) (hk38 : HK 38 = none) (hk39 : HK 39 = none) (hk40 : HK 40 = none) (hk41 : HK 41 = none) (hk42 : HK 42 = none) (hk46 : HK 46 = none) (hk47 : HK 47 = none) (hk48 : HK 48 = none) (h0 : Heap) (s m : SV) (xs ms : List Int) (hx : IsInts h0 s xs) (hs : IsInts h0 m ms) (hV : PV xs ms 0) {n : Nat} {S : Nat → Nat} (h1n : 1 ≤ n) (hn : n ≤ 64) (hxn : xs.length = n) (st : Str n S) (h1s : strs xs ms = [(List.range (2 * n)).map S]) :
    ∃ v h', Cal FT HK 11 [.agg [s, m, .int .i64 0]] h0 v h' ∧ Ext h0 h' ∧ ∃ t, v = .tup [.sc t, .sc (.int .i64 0)] ∧ IsInts h' t (cdD n S (2 * n)) := by
  refine Cal.of (F := a11) hk11 rfl rfl ?_
  have hS : ∀ j, j < 2 * n → S j < 4 * n := fun j hj => by have := st.lt j hj; omega
  have lx := IsSl.len hx
  rw [hxn] at lx
  have k26 := fun H (e : Ext h0 H) => call26 (HK := HK) hk26 hk37 hk38 hk46 hk47 H s m 0 xs ms (IsSl.ext hx e) (IsSl.ext hs e)
  have k28 := fun H (e : Ext h0 H) => call28 (HK := HK) hk28 hk26 hk37 hk38 hk39 hk40 hk41 hk42 hk46 hk47 hk48 H s m 0 xs ms (IsSl.ext hx e) (IsSl.ext hs e) hV
  repeat' (first | refine w_seq ?_ | refine w_seqN ?_ | refine w_blk ?_ | refine w_skip ?_ | refine w_ops ?_ | ((refine i_cond ?_); refine w_condF rfl ?_) | ((refine i_nil ?_); first | refine w_end1 rfl ?_ | refine w_end2 rfl rfl ?_ | refine w_end3 rfl rfl rfl ?_ | refine w_end6 rfl rfl rfl rfl rfl rfl ?_) | ((refine i_cons ?_); first | (refine k_box rfl rfl ?_; intro h1 e1 l1 b1) | refine k_ldA rfl b1 rfl ?_ | (refine k_call rfl (k26 h1 e1) ?_; rintro v h2 ⟨e2, bb, rfl, hq⟩; obtain rfl := hq.2 hV; have b2 := b1.ext e2) | refine k_ldA rfl b2 rfl ?_ | refine k_len rfl lx ?_ | (refine k_call rfl (k28 h2 (e1.trans e2)) ?_; rintro v h3 ⟨e3, o, rfl, ho⟩; rw [h1s] at ho; obtain ⟨id, cap, f, rfl, lo, hr, hf⟩ := one_str ho; have b3 := b2.ext e3) | refine k_len rfl lo ?_ | refine k_fldA rfl ?_ | refine k_ldb rfl b3 rfl ?_ | refine k_ldb rfl b2 rfl ?_ | (refine k_mkO (h0 := h3) (Ext.refl _) rfl rfl (by simp only [bigN]; omega) ?_; intro u h4 o4 e4 e4' l4; have hr4 := readN_extD e4 hr; have lf : lenS false f = some ((2 * n : Nat) : Int) := (by have := IsSl.len hf; simpa using this)) | refine k_idxA (esz := 1) rfl rfl (by omega) ?_ | refine k_ld rfl hr4 ?_ | refine k_len rfl lf ?_ | refine k_mv rfl ?_ | refine k_notT rfl ?_ | refine k_add rfl rfl (by omega) ?_ | refine k_gtrF rfl rfl (by omega) ?_ | refine k_eqlF rfl rfl (by omega) ?_))
  have ez : ((n : Int)).toNat = n := by omega
  rw [ez] at o4
  refine w_loop (I11a h3 (.slc id 0 1 cap) f u n S) (cntD (2 * n) 35) (R11a h3 (.slc id 0 1 cap) f u n S) ⟨0, Nat.zero_le _, e4, by simpa [ints, evD] using o4, rfl⟩ (round11a h3 (.slc id 0 1 cap) f u n S hn st hf hS) ?_
  rintro ex E' h5 ⟨rfl, e5, o5, a, b, c, d, rfl⟩
  have hr5 := readN_extD e5 hr
  repeat' (first | refine w_seq ?_ | refine w_seqN ?_ | refine w_blk ?_ | refine w_blkX ?_ | refine w_ops ?_ | ((refine i_nil ?_); first | refine w_end3 rfl rfl rfl ?_ | refine w_end5 rfl rfl rfl rfl rfl ?_) | ((refine i_cons ?_); first | (refine k_mkO (h0 := h5) (Ext.refl _) rfl rfl (by simp only [bigN]; omega) ?_; intro w h6 o6 e6 e6' l6; have hr6 := readN_extD e6 hr5) | refine k_idxA (esz := 1) rfl rfl (by omega) ?_ | refine k_ld rfl hr6 ?_ | refine k_len rfl lf ?_ | refine k_mv rfl ?_))
  have iu : IsInts h5 u (evD n S (2 * n)) := Ab.Own.ids (xs := evD n S (2 * n)) o5
  refine w_loop (I11b h5 f u n S) (cntD (2 * n) 66) (R11b h5 f u n S) ⟨0, w, Nat.zero_le _, e6, by simpa [ints, cdD] using o6, rfl⟩ (round11b h5 f u n S hn (hf.ext e5) iu hS) ?_
  rintro ex E' h7 ⟨rfl, e7, w', a, b, c, d, e, o7, rfl⟩
  repeat' (first | refine w_seq ?_ | refine w_seqN ?_ | refine w_blkX ?_ | refine w_ret ?_ | refine w_ops ?_ | ((refine i_nil ?_); refine w_end2 rfl rfl ?_) | ((refine i_cons ?_); refine k_mv rfl ?_))
  exact ⟨.inr rfl, (e1.trans e2).trans (e3.trans (e5.trans e7)), w', rfl, Ab.Own.ids (xs := cdD n S (2 * n)) o7⟩
end Go.Proofs.Ytooafhbjbpaacaa
