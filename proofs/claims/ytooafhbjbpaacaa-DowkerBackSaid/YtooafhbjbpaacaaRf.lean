/- reflected: contract. -/
import Derived.Test.YtooafhbjbpaacaaI1
import Derived.Test.YtooafhbjbpaacaaD2
namespace Go.Proofs.Ytooafhbjbpaacaa
open Go.Ab
set_option linter.unusedVariables false
set_option linter.unusedSimpArgs false
set_option maxRecDepth 20000
set_option maxHeartbeats 4000000
attribute [local irreducible] wOps wA wSeq wBlk wRound wRoundI wOpsD wOpsS
variable {HK : FuncId → Option Hook}

theorem call36 (hk : HK 36 = none) (h0 : Heap) (h : Nat) (hh : h < 1000000) : ∃ v h', Cal FT HK 36 [.sc (.int .i64 (h : Nat))] h0 v h' ∧ h' = h0 ∧ v = .sc (.int .i64 (mu h : Nat)) := by
  refine Cal.of (F := a36) hk rfl rfl ?_
  have e : ((h : Nat) : Int) / 4 * 4 + (4 - ((h : Nat) : Int) % 4) % 4 = ((mu h : Nat) : Int) := by unfold mu; omega
  have e2 : 0 ≤ (4 - ((h : Nat) : Int) % 4) := by omega
  repeat' (first | refine w_seq ?_ | refine w_seqN ?_ | refine w_ret ?_ | refine w_ops ?_ | ((refine i_nil ?_); refine w_end1 rfl ?_) | ((refine i_cons ?_); first | (refine k_quo rfl rfl (by omega) ?_) | (refine k_rem rfl rfl (by omega) ?_) | refine k_mv rfl ?_ | refine k_add rfl rfl (by omega) ?_ | refine k_sub rfl rfl (by omega) ?_ | refine k_mul rfl rfl (by omega) ?_))
  exact ⟨.inr rfl, rfl, by rw [← e]; rfl⟩
/-- The mates of the mirror image, of the half-edges below j. -/
def mrL (ms : List Int) : Nat → List Int
  | 0 => List.replicate ms.length 0
  | j + 1 => (mrL ms j).set (mu j) ((mu (mateN ms j) : Nat) : Int)
theorem mrL_len (ms : List Int) : ∀ j, (mrL ms j).length = ms.length
  | 0 => by simp [mrL]
  | j + 1 => by rw [mrL, List.length_set, mrL_len ms j]
theorem mu_lt {n h : Nat} (hh : h < 4 * n) : mu h < 4 * n := by unfold mu; omega
theorem mrL_get {ms : List Int} {n : Nat} (hl : ms.length = 4 * n) : ∀ {j}, j ≤ 4 * n → ∀ h, h < j → (mrL ms j).getD (mu h) 0 = ((mu (mateN ms h) : Nat) : Int)
  | 0, _, h, hh => absurd hh (Nat.not_lt_zero _)
  | j + 1, hj, h, hh => by
    have := mu_lt (n := n) (h := j) (by omega)
    rw [mrL, getD_set1 (by rw [mrL_len]; omega)]
    by_cases he : h = j
    · subst he; rw [if_pos rfl]
    · rw [if_neg (fun e => he (by rw [← mu_mu h, e, mu_mu])), mrL_get hl (by omega) h (by omega)]
theorem src_one (h : Heap) (x : SV) : srcCells (h ++ [Blk.cells [x] true 1]) 1 (.slc h.length 0 1 (some 1)) = some (1, [x]) := by
  simp only [srcCells]
  simp [readN, cut]
/-- Signs and mates that are being written. -/
structure Mr (hb h : Heap) (q : Nat) (A M : SV) (L X : List Int) : Prop where
  e : Ext hb h
  c : Cel3 h q A M (.int .i64 0)
  a : Own hb h A (ints L)
  m : Own hb h M (ints X)
  na : NotAt A q
  nm : NotAt M q
  am : Ab.Apart A M
  hq : hb.length ≤ q
def I24a (hb : Heap) (f : SV) (p r q : Nat) (M : SV) (xs X : List Int) (E : Env) (h : Heap) : Prop := ∃ (j : Nat) (A : SV), j ≤ xs.length ∧ Mr hb h q A M ((negL xs).take j) X ∧
  E = [(1, some (.sc (.ptr p 0))), (2, some (.sc (.ptr r 0))), (3, some (.sc f)), (4, some (.sc (.ptr q 0))), (5, some (.sc (.int .i64 (j : Nat))))]
def R24a (hb : Heap) (f : SV) (p r q : Nat) (M : SV) (xs X : List Int) (ex : Ex) (E : Env) (h : Heap) : Prop := ex = .ex 0 ∧ ∃ A a b, Mr hb h q A M (negL xs) X ∧
  E = [(1, some (.sc (.ptr p 0))), (2, some (.sc (.ptr r 0))), (3, some (.sc f)), (4, some (.sc (.ptr q 0))), (5, a), (18, b)]
theorem negL_take {vs : List Int} {i : Nat} {v : Int} (hv : vs[i]? = some v) : (negL vs).take (i + 1) = (negL vs).take i ++ [-v] :=
  take_snoc (by simp [negL, hv])
theorem round24a (hb : Heap) (f : SV) (p r q : Nat) (s m M : SV) (xs X : List Int) (hs : ∀ x ∈ xs, Sgn x) (hn : xs.length ≤ 64) (b1 : Blk.At hb p [s, m, .int .i64 0]) (is : IsInts hb s xs) (E : Env) (h : Heap) (hI : I24a hb f p r q M xs X E h) :
    wA FT HK b24L0 (E.keep [1, 2, 3, 4, 5]) h (wRound (I24a hb f p r q M xs X) (cntD xs.length 5) (cntD xs.length 5 E h) (R24a hb f p r q M xs X)) := by
  obtain ⟨j, A, hj, st, rfl⟩ := hI
  have b1' := b1.ext st.e
  have ls := IsSl.len is
  by_cases hlt : j < xs.length
  · obtain ⟨v, hv⟩ : ∃ v, xs[j]? = some v := ⟨_, List.getElem?_eq_getElem hlt⟩
    have hsv := hs v (List.mem_of_getElem? hv)
    have hvb : -1 ≤ v ∧ v ≤ 1 := by rcases hsv with h | h <;> omega
    obtain ⟨ids, offs, caps, rfl, rs0⟩ := IsInts.at is hv
    have rs := readN_extD st.e rs0
    have c1 := st.c
    have cb := st.c.at
    have lw : (ints ((negL xs).take j)).length = j := by simp [ints, negL]; omega
    have en := negL_take hv
    repeat' (first | refine w_seq ?_ | refine w_seqN ?_ | refine w_blk ?_ | refine w_blkN ?_ | refine w_skip ?_ | refine w_ops ?_ | refine w_opsD ?_ | refine d_one ?_ | refine d_nil ?_ | ((refine i_cond ?_); refine w_condT rfl ?_) | ((refine i_nil ?_); first | refine d_same ?_ | refine d_ord ?_ | refine d_ext ⟨_, rfl⟩ ?_ | refine w_end5 rfl rfl rfl rfl rfl ?_ | refine w_end6 rfl rfl rfl rfl rfl rfl ?_) | ((refine i_cons ?_); first | refine k_fldA rfl ?_ | refine k_ldb rfl b1' rfl ?_ | refine k_ldb rfl cb rfl ?_ | refine k_len rfl ls ?_ | refine k_idxA (esz := 1) rfl rfl (by omega) ?_ | refine k_ld rfl rs ?_ | refine k_neg rfl (by omega) ?_ | (refine k_bslZ rfl rfl ?_; intro e1) | (refine k_app (st.e.trans e1) (st.a.ext e1) rfl rfl (ws := [.int .i64 (-v)]) (src_one _ _) (by rw [lw]; simp only [bigN, List.length_singleton]; omega) ?_; intro A' h2 o2 e2 l2 f2; have g2 := f2 _ _ (st.c.ext e1) st.na; have c2 : Cel3 h2 q A M (.int .i64 0) := g2.1; have w2 := c2.wr.1 A') | refine k_st rfl rfl w2 ?_ | refine k_mv rfl ?_ | refine k_add rfl rfl (by omega) ?_ | refine k_lssT rfl rfl (by omega) ?_))
    have m2 : Own hb h2 M (ints X) := Own.away (st.m.ext e1) f2 st.am
    have ap : Ab.Apart A' M := Fram.apart f2 (Own.sl (st.m.ext e1)) st.am
    have st3 : Mr hb (h2.set q (.cells [A', M, .int .i64 0] true 0)) q A' M ((negL xs).take (j + 1)) X := by
      refine ⟨e2.set st.hq _, c2.wr.2.2.2 _ _ _, ?_, own_set m2 st.nm _, g2.2, st.nm, ap, st.hq⟩
      rw [en]
      have := own_set o2 g2.2 (.cells [A', M, .int .i64 0] true 0)
      simpa [ints] using this
    exact w_roundN ⟨j + 1, A', by omega, st3, rfl⟩ (by simp [cntD, Env.get]; omega)
  · have : j = xs.length := by omega
    subst this
    have st2 := st
    rw [List.take_of_length_le (by simp [negL])] at st2
    repeat' (first | refine w_seq ?_ | refine w_seqN ?_ | refine w_seqX ?_ | refine w_exit ?_ | refine w_ops ?_ | ((refine i_cond ?_); refine w_condF rfl ?_) | ((refine i_nil ?_); refine w_end6 rfl rfl rfl rfl rfl rfl ?_) | ((refine i_cons ?_); first | refine k_fldA rfl ?_ | refine k_ldb rfl b1' rfl ?_ | refine k_len rfl ls ?_ | refine k_mv rfl ?_ | refine k_lssF rfl rfl (by omega) ?_))
    exact w_roundX ⟨rfl, A, _, _, st2, rfl⟩
def I24b (hb : Heap) (p r q : Nat) (A M : SV) (xs ms : List Int) (E : Env) (h : Heap) : Prop := ∃ j : Nat, j ≤ ms.length ∧ Mr hb h q A M (negL xs) (mrL ms j) ∧
  E = [(1, some (.sc (.ptr p 0))), (2, some (.sc (.ptr r 0))), (3, some (.sc (.fn 36 []))), (4, some (.sc (.ptr q 0))), (6, some (.sc (.int .i64 (j : Nat))))]
def R24b (hb : Heap) (p r q : Nat) (A M : SV) (xs ms : List Int) (ex : Ex) (E : Env) (h : Heap) : Prop := ex = .ex 2 ∧ Mr hb h q A M (negL xs) (mrL ms ms.length) ∧ ∃ a b c d,
  E = [(1, a), (2, some (.sc (.ptr r 0))), (3, b), (4, some (.sc (.ptr q 0))), (6, c), (36, d)]
theorem round24b (hk36 : HK 36 = none) (hb : Heap) (p r q : Nat) (s m A M : SV) (xs ms : List Int) (n : Nat) (hn : n ≤ 64) (lm : ms.length = 4 * n) (mm : Mates ms) (b1 : Blk.At hb p [s, m, .int .i64 0]) (im : IsInts hb m ms) (E : Env) (h : Heap) (hI : I24b hb p r q A M xs ms E h) :
    wA FT HK b24L1 (E.keep [1, 2, 3, 4, 6]) h (wRound (I24b hb p r q A M xs ms) (cntD ms.length 6) (cntD ms.length 6 E h) (R24b hb p r q A M xs ms)) := by
  obtain ⟨j, hj, st, rfl⟩ := hI
  have b1' := b1.ext st.e
  have lmI := IsSl.len im
  by_cases hlt : j < ms.length
  · obtain ⟨hg1, hg2⟩ := mate_lt mm hlt
    obtain ⟨idm, offm, capm, rfl, rm0⟩ := IsInts.at im hg2
    have rm := readN_extD st.e rm0
    have cb := st.c.at
    have hmu := mu_lt (n := n) (h := j) (by omega)
    have hml := mrL_len ms j
    have ka := call36 hk36 h j (by omega)
    have kb := call36 hk36 h (mateN ms j) (by omega)
    obtain ⟨id3, cap3, h3, eM, w3, o3, e3, f3, l3⟩ := Own.wr st.e st.m (i := mu j) (by simp [ints, hml]; omega) (.int .i64 ((mu (mateN ms j) : Nat) : Int))
    have hll : (ints (mrL ms j)).length = ms.length := by simp [ints, hml]
    rw [hll] at eM
    have i1 : (((mu j : Nat) : Int)).toNat = mu j := by omega
    have g3 := f3 _ _ st.c st.nm
    have st3 : Mr hb h3 q A M (negL xs) (mrL ms (j + 1)) :=
      ⟨e3, g3.1, Own.away st.a f3 st.am.symm, by rw [mrL]; simpa [ints, List.map_set] using o3, st.na, st.nm, st.am, st.hq⟩
    subst eM
    rw [← i1] at w3
    generalize mateN ms j = g at *
    repeat' (first | refine w_seq ?_ | refine w_seqN ?_ | refine w_blk ?_ | refine w_blkN ?_ | refine w_skip ?_ | refine w_ops ?_ | refine w_opsD ?_ | refine d_one ?_ | refine d_nil ?_ | ((refine i_cond ?_); refine w_condT rfl ?_) | ((refine i_nil ?_); first | refine d_same ?_ | refine d_ord ?_ | refine w_end5 rfl rfl rfl rfl rfl ?_ | refine w_end6 rfl rfl rfl rfl rfl rfl ?_) | ((refine i_cons ?_); first | refine k_fldA rfl ?_ | refine k_ldb rfl b1' rfl ?_ | refine k_ldb rfl cb rfl ?_ | refine k_len rfl lmI ?_ | refine k_idxA (esz := 1) rfl rfl (by omega) ?_ | refine k_ld rfl rm ?_ | (refine k_callvC rfl rfl ka ?_; rintro v hh ⟨rfl, rfl⟩) | (refine k_callvC rfl rfl kb ?_; rintro v hh ⟨rfl, rfl⟩) | refine k_st rfl rfl w3 ?_ | refine k_mv rfl ?_ | refine k_add rfl rfl (by omega) ?_ | refine k_lssT rfl rfl (by omega) ?_))
    exact w_roundN ⟨j + 1, by omega, st3, rfl⟩ (by simp [cntD, Env.get]; omega)
  · have : j = ms.length := by omega
    subst this
    repeat' (first | refine w_seq ?_ | refine w_seqN ?_ | refine w_seqX ?_ | refine w_exit ?_ | refine w_ops ?_ | ((refine i_cond ?_); refine w_condF rfl ?_) | ((refine i_nil ?_); refine w_end6 rfl rfl rfl rfl rfl rfl ?_) | ((refine i_cons ?_); first | refine k_fldA rfl ?_ | refine k_ldb rfl b1' rfl ?_ | refine k_len rfl lmI ?_ | refine k_mv rfl ?_ | refine k_lssF rfl rfl (by omega) ?_))
    exact w_roundX ⟨rfl, st, _, _, _, _, rfl⟩
theorem call24 (hk24 : HK 24 = none) (hk36 : HK 36 = none) (h0 : Heap) (s m : SV) (xs ms : List Int) (n : Nat) (hn : n ≤ 64) (hs : ∀ x ∈ xs, Sgn x) (lx : xs.length = n) (lm : ms.length = 4 * n) (mm : Mates ms) (is : IsInts h0 s xs) (im : IsInts h0 m ms) :
    ∃ v h', Cal FT HK 24 [.agg [s, m, .int .i64 0]] h0 v h' ∧ Ext h0 h' ∧ ∃ t u, v = .agg [t, u, .int .i64 0] ∧ IsInts h' t (negL xs) ∧ IsInts h' u (mrL ms ms.length) := by
  refine Cal.of (F := a24) hk24 rfl rfl ?_
  have lmI := IsSl.len im
  repeat' (first | refine w_seq ?_ | refine w_seqN ?_ | refine w_blk ?_ | refine w_ops ?_ | refine w_opsD ?_ | refine d_one ?_ | refine d_nil ?_ | ((refine i_nil ?_); first | refine d_same ?_ | refine d_ord ?_ | refine d_ext (by assumption) ?_ | refine w_end2 rfl rfl ?_ | refine w_end3 rfl rfl rfl ?_ | refine w_end4 rfl rfl rfl rfl ?_ | refine w_end5 rfl rfl rfl rfl rfl ?_) | ((refine i_cons ?_); first | (refine k_box rfl rfl ?_; intro h1 e1 l1 b1) | (have z := o3; refine k_new3 ?_; intro h4 e4 l4 c4) | (refine k_new3 ?_; intro h2 e2 l2 c2; have b2 := b1.ext e2) | (refine k_ok (v := some (.sc (.fn 36 []))) (h' := h2) rfl rfl ?_) | refine k_fldA rfl ?_ | refine k_ldb rfl b2 rfl ?_ | refine k_ldb rfl b3 rfl ?_ | refine k_len rfl lmI ?_ | (refine k_mkO (h0 := h2) (Ext.refl _) rfl rfl (by simp only [bigN]; omega) ?_; intro M h3 o3 e3 e3' l3; have b3 := b2.ext e3) | (refine k_st3e (hx := h3) rfl rfl c4 e4 (Nat.le_refl _) ?_; intro h5 e5 c5) | refine k_mv rfl ?_ | refine k_ok rfl rfl ?_))
  have ez : ((ms.length : Int)).toNat = ms.length := by omega
  rw [ez] at o3
  have M5 : Own h2 h5 M (ints (mrL ms 0)) := by
    have := o3.ext e5
    simpa [ints, mrL] using this
  have st5 : Mr h2 h5 h3.length .nilS M ((negL xs).take 0) (mrL ms 0) :=
    ⟨e3.trans e5, c5, .inl ⟨rfl, by simp⟩, M5, fun o n c e => (by cases e), isSl_notD o3.sl (Nat.le_refl _), fun j => .inl fun o n c e => (by cases e), Nat.le_of_lt l3⟩
  refine w_loop (I24a h2 (.fn 36 []) h0.length h1.length h3.length M xs (mrL ms 0)) (cntD xs.length 5) (R24a h2 (.fn 36 []) h0.length h1.length h3.length M xs (mrL ms 0)) ⟨0, .nilS, Nat.zero_le _, st5, rfl⟩ (round24a h2 (.fn 36 []) h0.length h1.length h3.length s m M xs (mrL ms 0) hs (by omega) b2 (IsSl.ext is (e1.trans e2))) ?_
  rintro ex E' h6 ⟨rfl, A, a, b, st6, rfl⟩
  repeat' (first | refine w_seq ?_ | refine w_seqN ?_ | refine w_blk ?_ | refine w_blkX ?_ | refine w_ops ?_ | ((refine i_nil ?_); refine w_end5 rfl rfl rfl rfl rfl ?_) | ((refine i_cons ?_); refine k_mv rfl ?_))
  refine w_loop (I24b h2 h0.length h1.length h3.length A M xs ms) (cntD ms.length 6) (R24b h2 h0.length h1.length h3.length A M xs ms) ⟨0, Nat.zero_le _, st6, rfl⟩ (round24b hk36 h2 h0.length h1.length h3.length s m A M xs ms n hn lm mm b2 (IsSl.ext im (e1.trans e2))) ?_
  rintro ex E' h7 ⟨rfl, st7, a, b, c, d, rfl⟩
  have c7 := st7.c
  have c2' := c2.ext st7.e
  repeat' (first | refine w_seq ?_ | refine w_seqN ?_ | refine w_blkX ?_ | refine w_ret ?_ | refine w_ops ?_ | ((refine i_nil ?_); refine w_end1 rfl ?_) | ((refine i_cons ?_); first | refine k_ld3 rfl c7 ?_ | (refine k_st3 rfl rfl c2' ?_; intro h8 q8 c8)))
  have n1 := e1.len
  have n2 : h1.length < h2.length := by omega
  have x8 : Ext h0 h8 := by rw [q8]; exact (e1.trans (e2.trans st7.e)).set n1 _
  have tA : NotAt A h1.length := notAt_of_le st7.a n2
  have tM : NotAt M h1.length := notAt_of_le st7.m n2
  refine ⟨.inr rfl, oK_cell rfl c8.read ⟨x8, A, M, rfl, ?_, ?_⟩⟩
  · rw [q8]
    exact Ab.Own.ids (xs := negL xs) (own_set st7.a tA _)
  · rw [q8]
    exact Ab.Own.ids (xs := mrL ms ms.length) (own_set st7.m tM _)
end Go.Proofs.Ytooafhbjbpaacaa
