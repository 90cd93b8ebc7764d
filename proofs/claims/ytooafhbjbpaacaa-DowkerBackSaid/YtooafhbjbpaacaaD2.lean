/- The reference's Drawn, Ints, Equal: contracts. -/
import Derived.Test.YtooafhbjbpaacaaD1
namespace Go.Proofs.Ytooafhbjbpaacaa
open Go.Ab
set_option linter.unusedVariables false
set_option linter.unusedSimpArgs false
set_option maxRecDepth 20000
set_option maxHeartbeats 4000000
attribute [local irreducible] wOps wA wSeq wBlk wRound wRoundI wOpsD wOpsS
variable {HK : FuncId → Option Hook}

theorem call35 (hk : HK 35 = none) (h0 : Heap) (v : Int) (hv : -1000 ≤ v ∧ v ≤ 1000) : ∃ r h', Cal FT HK 35 [.sc (.int .i64 v)] h0 r h' ∧ h' = h0 ∧ r = .sc (.int .i64 (max v (-v))) := by
  refine Cal.of (F := a35) hk rfl rfl ?_
  repeat' (first | refine w_seq ?_ | refine w_seqN ?_ | refine w_ret ?_ | refine w_ops ?_ | ((refine i_nil ?_); refine w_end1 rfl ?_) | ((refine i_cons ?_); first | refine k_mv rfl ?_ | refine k_neg rfl (by omega) ?_ | refine k_max rfl rfl ?_))
  exact ⟨.inr rfl, rfl, rfl⟩
def I22a (hb : Heap) (s o A B : SV) (q q6 : Nat) (vs xs : List Int) (E : Env) (h : Heap) : Prop := ∃ i : Nat, i ≤ vs.length ∧ Two hb h A B (inD vs xs i) (outD vs xs i) ∧
  E = [(0, some (.sc o)), (1, some (.sc s)), (4, some (.sc (.ptr q 0))), (5, some (.sc (.int .i64 (vs.length : Nat)))), (6, some (.sc (.ptr q6 0))), (7, some (.sc A)), (8, some (.sc B)), (9, some (.sc (.int .i64 (i : Nat))))]
def R22a (hb : Heap) (A B : SV) (q q6 : Nat) (vs xs : List Int) (ex : Ex) (E : Env) (h : Heap) : Prop := ex = .ex 0 ∧ Two hb h A B (inD vs xs vs.length) (outD vs xs vs.length) ∧ ∃ a b c d,
  E = [(0, a), (1, b), (4, some (.sc (.ptr q 0))), (5, some (.sc (.int .i64 (vs.length : Nat)))), (6, some (.sc (.ptr q6 0))), (7, some (.sc A)), (8, some (.sc B)), (9, c), (32, d)]
theorem round22a (hk35 : HK 35 = none) (hb : Heap) (s o A B : SV) (q q6 : Nat) (vs xs : List Int) (hg : Good vs) (hl : xs.length = vs.length) (hs : IsInts hb s xs) (ho : IsInts hb o vs) (E : Env) (h : Heap) (hI : I22a hb s o A B q q6 vs xs E h) :
    wA FT HK b22L0 (E.keep [0, 1, 4, 5, 6, 7, 8, 9]) h (wRound (I22a hb s o A B q q6 vs xs) (cntD vs.length 9) (cntD vs.length 9 E h) (R22a hb A B q q6 vs xs)) := by
  obtain ⟨i, hi, st, rfl⟩ := hI
  have h64 := hg.2.1
  by_cases hlt : i < vs.length
  · obtain ⟨v, hv⟩ : ∃ v, vs[i]? = some v := ⟨_, List.getElem?_eq_getElem hlt⟩
    obtain ⟨x, hx⟩ : ∃ x, xs[i]? = some x := ⟨_, List.getElem?_eq_getElem (by omega)⟩
    obtain ⟨v2, vn, ve⟩ := good_v hg hlt
    obtain ⟨l1, l2, l3⟩ := ov_lt hg hlt
    have eI := inD_step vs xs i
    have eO := outD_step vs xs i
    rw [getD_at hv] at v2 vn ve l1 l2 l3 eI eO
    rw [getD_at hx] at eI eO
    obtain ⟨id, off, cap, rfl, hr0⟩ := IsInts.at ho hv
    obtain ⟨id2, off2, cap2, rfl, hr20⟩ := IsInts.at hs hx
    have hr := readN_extD st.e hr0
    have li := inD_len vs xs i
    have lo := outD_len vs xs i
    obtain ⟨iA, cA, iB, cB, h1, h2, eA0, eB0, w1, w2, s2⟩ := st.both (i := unD v i) (by omega) (by omega) (4 * (i : Int)) (4 * (i : Int) + 2)
    obtain ⟨iA', cA', iB', cB', h3, h4, eA, eB, w3, w4, s4⟩ := s2.both (i := ovD v i) (by rw [List.length_set]; omega) (by rw [List.length_set]; omega) (4 * (i : Int) + 3) (4 * (i : Int) + 1)
    obtain ⟨iA2, cA2, iB2, cB2, h5, h6, eA2, eB2, w5, w6, s6⟩ := s4.both (i := ovD v i) (by rw [List.length_set, List.length_set]; omega) (by rw [List.length_set, List.length_set]; omega) (4 * (i : Int) + 1) (4 * (i : Int) + 3)
    simp only [List.length_set, li, lo] at eA0 eB0 eA eB eA2 eB2
    subst eA0
    subst eB0
    cases eA
    cases eB
    cases eA2
    cases eB2
    rw [List.set_set, List.set_set] at s6
    have hr2 := readN_extD s4.e hr20
    rw [hl] at *
    have k35 := call35 hk35 h v (by omega)
    by_cases hneg : v < 0
    · have i1 : (2 * (i : Int)).toNat = unD v i := by unfold unD; rw [if_pos hneg]; omega
      have i2 : (max v (-v) - 1).toNat = ovD v i := by unfold ovD; rw [if_pos hneg]; omega
      rw [← i1] at w1 w2
      rw [← i2] at w3 w4 w5 w6
      have b1 : 0 ≤ max v (-v) - 1 ∧ max v (-v) - 1 < ((2 * vs.length : Nat) : Int) := by omega
      by_cases hx1 : x = -1
      · subst hx1
        rw [if_pos rfl] at eI eO
        repeat' (first | refine w_seq ?_ | refine w_seqN ?_ | refine w_blk ?_ | refine w_blkN ?_ | refine w_skip ?_ | refine w_ops ?_ | ((refine i_cond ?_); refine w_condT rfl ?_) | ((refine i_nil ?_); first | refine w_end8 rfl rfl rfl rfl rfl rfl rfl rfl ?_ | refine w_end9 rfl rfl rfl rfl rfl rfl rfl rfl rfl ?_ | refine w_end10 rfl rfl rfl rfl rfl rfl rfl rfl rfl rfl ?_ | refine w_end11 rfl rfl rfl rfl rfl rfl rfl rfl rfl rfl rfl ?_) | ((refine i_cons ?_); first | refine k_idxA (esz := 1) rfl rfl (by omega) ?_ | refine k_ld rfl hr ?_ | (refine k_call rfl k35 ?_; rintro r hh ⟨rfl, rfl⟩) | refine k_ld rfl hr2 ?_ | refine k_st rfl rfl w1 ?_ | refine k_st rfl rfl w2 ?_ | refine k_st rfl rfl w3 ?_ | refine k_st rfl rfl w4 ?_ | refine k_st rfl rfl w5 ?_ | refine k_st rfl rfl w6 ?_ | refine k_mv rfl ?_ | refine k_add rfl rfl (by omega) ?_ | refine k_sub rfl rfl (by omega) ?_ | refine k_mul rfl rfl (by omega) ?_ | refine k_lssT rfl rfl (by omega) ?_ | refine k_eqlT rfl rfl (by omega) ?_))
        exact w_roundN ⟨i + 1, by omega, by rw [eI, eO]; exact s6, rfl⟩ (by simp [cntD, Env.get]; omega)
      · rw [if_neg hx1] at eI eO
        repeat' (first | refine w_seq ?_ | refine w_seqN ?_ | refine w_blk ?_ | refine w_blkN ?_ | refine w_skip ?_ | refine w_ops ?_ | ((refine i_cond ?_); first | refine w_condT rfl ?_ | refine w_condF rfl ?_) | ((refine i_nil ?_); first | refine w_end8 rfl rfl rfl rfl rfl rfl rfl rfl ?_ | refine w_end9 rfl rfl rfl rfl rfl rfl rfl rfl rfl ?_ | refine w_end10 rfl rfl rfl rfl rfl rfl rfl rfl rfl rfl ?_ | refine w_end11 rfl rfl rfl rfl rfl rfl rfl rfl rfl rfl rfl ?_) | ((refine i_cons ?_); first | refine k_idxA (esz := 1) rfl rfl (by omega) ?_ | refine k_ld rfl hr ?_ | (refine k_call rfl k35 ?_; rintro r hh ⟨rfl, rfl⟩) | refine k_ld rfl hr2 ?_ | refine k_st rfl rfl w1 ?_ | refine k_st rfl rfl w2 ?_ | refine k_st rfl rfl w3 ?_ | refine k_st rfl rfl w4 ?_ | refine k_mv rfl ?_ | refine k_add rfl rfl (by omega) ?_ | refine k_sub rfl rfl (by omega) ?_ | refine k_mul rfl rfl (by omega) ?_ | refine k_lssT rfl rfl (by omega) ?_ | refine k_eqlF rfl rfl (by omega) ?_))
        exact w_roundN ⟨i + 1, by omega, by rw [eI, eO]; exact s4, rfl⟩ (by simp [cntD, Env.get]; omega)
    · have i1 : (max v (-v) - 1).toNat = unD v i := by unfold unD; rw [if_neg hneg]; omega
      have i2 : (2 * (i : Int)).toNat = ovD v i := by unfold ovD; rw [if_neg hneg]; omega
      rw [← i1] at w1 w2
      rw [← i2] at w3 w4 w5 w6
      have b1 : 0 ≤ max v (-v) - 1 ∧ max v (-v) - 1 < ((2 * vs.length : Nat) : Int) := by omega
      by_cases hx1 : x = -1
      · subst hx1
        rw [if_pos rfl] at eI eO
        repeat' (first | refine w_seq ?_ | refine w_seqN ?_ | refine w_blk ?_ | refine w_blkN ?_ | refine w_skip ?_ | refine w_ops ?_ | ((refine i_cond ?_); first | refine w_condT rfl ?_ | refine w_condF rfl ?_) | ((refine i_nil ?_); first | refine w_end8 rfl rfl rfl rfl rfl rfl rfl rfl ?_ | refine w_end9 rfl rfl rfl rfl rfl rfl rfl rfl rfl ?_ | refine w_end10 rfl rfl rfl rfl rfl rfl rfl rfl rfl rfl ?_ | refine w_end11 rfl rfl rfl rfl rfl rfl rfl rfl rfl rfl rfl ?_) | ((refine i_cons ?_); first | refine k_idxA (esz := 1) rfl rfl (by omega) ?_ | refine k_ld rfl hr ?_ | (refine k_call rfl k35 ?_; rintro r hh ⟨rfl, rfl⟩) | refine k_ld rfl hr2 ?_ | refine k_st rfl rfl w1 ?_ | refine k_st rfl rfl w2 ?_ | refine k_st rfl rfl w3 ?_ | refine k_st rfl rfl w4 ?_ | refine k_st rfl rfl w5 ?_ | refine k_st rfl rfl w6 ?_ | refine k_mv rfl ?_ | refine k_add rfl rfl (by omega) ?_ | refine k_sub rfl rfl (by omega) ?_ | refine k_mul rfl rfl (by omega) ?_ | refine k_lssT rfl rfl (by omega) ?_ | refine k_lssF rfl rfl (by omega) ?_ | refine k_eqlT rfl rfl (by omega) ?_))
        exact w_roundN ⟨i + 1, by omega, by rw [eI, eO]; exact s6, rfl⟩ (by simp [cntD, Env.get]; omega)
      · rw [if_neg hx1] at eI eO
        repeat' (first | refine w_seq ?_ | refine w_seqN ?_ | refine w_blk ?_ | refine w_blkN ?_ | refine w_skip ?_ | refine w_ops ?_ | ((refine i_cond ?_); first | refine w_condT rfl ?_ | refine w_condF rfl ?_) | ((refine i_nil ?_); first | refine w_end8 rfl rfl rfl rfl rfl rfl rfl rfl ?_ | refine w_end9 rfl rfl rfl rfl rfl rfl rfl rfl rfl ?_ | refine w_end10 rfl rfl rfl rfl rfl rfl rfl rfl rfl rfl ?_ | refine w_end11 rfl rfl rfl rfl rfl rfl rfl rfl rfl rfl rfl ?_) | ((refine i_cons ?_); first | refine k_idxA (esz := 1) rfl rfl (by omega) ?_ | refine k_ld rfl hr ?_ | (refine k_call rfl k35 ?_; rintro r hh ⟨rfl, rfl⟩) | refine k_ld rfl hr2 ?_ | refine k_st rfl rfl w1 ?_ | refine k_st rfl rfl w2 ?_ | refine k_st rfl rfl w3 ?_ | refine k_st rfl rfl w4 ?_ | refine k_mv rfl ?_ | refine k_add rfl rfl (by omega) ?_ | refine k_sub rfl rfl (by omega) ?_ | refine k_mul rfl rfl (by omega) ?_ | refine k_lssT rfl rfl (by omega) ?_ | refine k_lssF rfl rfl (by omega) ?_ | refine k_eqlF rfl rfl (by omega) ?_))
        exact w_roundN ⟨i + 1, by omega, by rw [eI, eO]; exact s4, rfl⟩ (by simp [cntD, Env.get]; omega)
  · have : i = vs.length := by omega
    subst this
    repeat' (first | refine w_seq ?_ | refine w_seqN ?_ | refine w_seqX ?_ | refine w_exit ?_ | refine w_ops ?_ | ((refine i_cond ?_); refine w_condF rfl ?_) | ((refine i_nil ?_); refine w_end9 rfl rfl rfl rfl rfl rfl rfl rfl rfl ?_) | ((refine i_cons ?_); first | refine k_mv rfl ?_ | refine k_lssF rfl rfl (by omega) ?_))
    exact w_roundX ⟨rfl, st, _, _, _, _, rfl⟩
/-- Memory while the mates are laid. -/
structure Mb (hM h : Heap) (q : Nat) (t M A B : SV) (I O X : List Int) : Prop where
  e : Ext hM h
  c : Cel3 h q t M (.int .i64 0)
  m : Own hM h M (ints X)
  nq : NotAt M q
  a : IsInts h A I
  b : IsInts h B O
  aa : Ab.Apart M A
  ab : Ab.Apart M B
theorem Mb.set {hM h : Heap} {q : Nat} {t M A B : SV} {I O X : List Int} (s : Mb hM h q t M A B I O X) {i : Nat} (hi : i < X.length) (v : Int) : ∃ id cap h', M = .slc id 0 X.length cap ∧ writeN h id (0 + i * 1) [.int .i64 v] = some h' ∧ h'[q]? = h[q]? ∧ Mb hM h' q t M A B I O (X.set i v) := by
  obtain ⟨id, cap, h2, es, w2, o2, e2, f2, l2⟩ := Own.wr s.e s.m (i := i) (by simpa [ints] using hi) (.int .i64 v)
  have hc := (f2 _ _ s.c s.nq).1
  have hc0 : h[q]? = _ := s.c
  refine ⟨id, cap, h2, by rw [es]; simp [ints], w2, by rw [hc, hc0], e2, hc, ?_, s.nq, IsSl.away s.a f2 s.aa, IsSl.away s.b f2 s.ab, s.aa, s.ab⟩
  simpa [ints, List.map_set] using o2
def I22b (hM : Heap) (t M A B : SV) (q q6 : Nat) (vs xs : List Int) (E : Env) (h : Heap) : Prop := ∃ k : Nat, k ≤ 2 * vs.length ∧ Mb hM h q6 t M A B (inD vs xs vs.length) (outD vs xs vs.length) (mtT vs.length (inD vs xs vs.length) (outD vs xs vs.length) k) ∧
  E = [(4, some (.sc (.ptr q 0))), (5, some (.sc (.int .i64 (vs.length : Nat)))), (6, some (.sc (.ptr q6 0))), (7, some (.sc A)), (8, some (.sc B)), (12, some (.sc (.int .i64 (k : Nat))))]
def R22b (hM : Heap) (t M A B : SV) (q q6 : Nat) (vs xs : List Int) (ex : Ex) (E : Env) (h : Heap) : Prop := ex = .ex 2 ∧ Mb hM h q6 t M A B (inD vs xs vs.length) (outD vs xs vs.length) (mtD vs xs) ∧ ∃ a b c d e,
  E = [(4, some (.sc (.ptr q 0))), (5, a), (6, some (.sc (.ptr q6 0))), (7, b), (8, c), (12, d), (93, e)]
theorem round22b (hM : Heap) (t M A B : SV) (q q6 : Nat) (vs xs : List Int) (hn : 0 < vs.length) (h64 : vs.length ≤ 64) (E : Env) (h : Heap) (hI : I22b hM t M A B q q6 vs xs E h) :
    wA FT HK b22L1 (E.keep [4, 5, 6, 7, 8, 12]) h (wRound (I22b hM t M A B q q6 vs xs) (cntD (2 * vs.length) 12) (cntD (2 * vs.length) 12 E h) (R22b hM t M A B q q6 vs xs)) := by
  obtain ⟨k, hk, st, rfl⟩ := hI
  have li := inD_len vs xs vs.length
  have lo := outD_len vs xs vs.length
  by_cases hlt : k < 2 * vs.length
  · have hm : (k + 1) % (2 * vs.length) < 2 * vs.length := Nat.mod_lt _ (by omega)
    have hmi : ((k : Int) + 1) % (2 * (vs.length : Int)) = (((k + 1) % (2 * vs.length) : Nat) : Int) := by rw [Int.natCast_emod]; rfl
    have en := mtT_step vs.length (inD vs xs vs.length) (outD vs xs vs.length) k
    have hml := mtT_len vs.length (inD vs xs vs.length) (outD vs xs vs.length) k
    have ra := rng_in (vs := vs) (xs := xs) (k := (k + 1) % (2 * vs.length)) hn
    have rb := rng_out (vs := vs) (xs := xs) (k := k) hn
    have ga := getD_some (L := inD vs xs vs.length) (k := (k + 1) % (2 * vs.length)) (by omega)
    have gb := getD_some (L := outD vs xs vs.length) (k := k) (by omega)
    obtain ⟨id, off, cap, eA, hr⟩ := IsInts.at st.a ga
    obtain ⟨id2, off2, cap2, eB, hr2⟩ := IsInts.at st.b gb
    generalize (inD vs xs vs.length).getD ((k + 1) % (2 * vs.length)) 0 = a at *
    generalize (outD vs xs vs.length).getD k 0 = b at *
    generalize (k + 1) % (2 * vs.length) = z at *
    obtain ⟨id3, cap3, h3, e3, w3, q3, s3⟩ := st.set (i := b.toNat) (by omega) a
    obtain ⟨id4, cap4, h4, e4, w4, q4, s4⟩ := s3.set (i := a.toNat) (by rw [List.length_set]; omega) b
    rw [hml] at e3
    rw [List.length_set, hml] at e4
    subst e3
    cases e4
    rw [li] at eA
    rw [lo] at eB
    subst eA
    subst eB
    rw [← en] at s4
    have b0 := st.c.at
    repeat' (first | refine w_seq ?_ | refine w_seqN ?_ | refine w_blk ?_ | refine w_skip ?_ | refine w_ops ?_ | refine w_opsD ?_ | refine d_one ?_ | refine d_nil ?_ | ((refine i_cond ?_); refine w_condT rfl ?_) | ((refine i_nil ?_); first | refine d_same ?_ | refine w_end7 rfl rfl rfl rfl rfl rfl rfl ?_ | refine w_end8 rfl rfl rfl rfl rfl rfl rfl rfl ?_) | ((refine i_cons ?_); first | refine k_idxA (esz := 1) rfl rfl (by omega) ?_ | refine k_ld rfl hr ?_ | refine k_ld rfl hr2 ?_ | refine k_remD hmi rfl rfl (by omega) ?_ | refine k_mv rfl ?_ | refine k_add rfl rfl (by omega) ?_ | refine k_mul rfl rfl (by omega) ?_ | refine k_lssT rfl rfl (by omega) ?_))
    have no : ∀ {ord : Bool} {k : AK} (E : Env) (id : Nat), ldX E ord k = some id → ldX E ord k = none → id ∈ [q6] := fun E id h1 h2 => by rw [h2] at h1; cases h1
    refine w_opsS [q6] ?_
    refine s_one (fun id h => no _ id h rfl) (k_fldA rfl (s_same ?_))
    refine s_one (fun id h => by cases h; exact List.mem_singleton.2 rfl) (k_ldb rfl b0 rfl (s_same ?_))
    refine s_one (fun id h => no _ id h rfl) (k_mv rfl (s_same ?_))
    refine s_one (fun id h => no _ id h rfl) (k_fldA rfl (s_same ?_))
    refine s_one (fun id h => by cases h; exact List.mem_singleton.2 rfl) (k_ldb rfl b0 rfl (s_same ?_))
    refine s_one (fun id h => no _ id h rfl) (k_mv rfl (s_same ?_))
    refine s_one (fun id h => no _ id h rfl) (k_mv rfl (s_same ?_))
    refine s_one (fun id h => no _ id h rfl) (k_mv rfl (s_same ?_))
    refine s_one (fun id h => no _ id h rfl) (k_idxA (esz := 1) rfl rfl (by omega) (s_same ?_))
    refine s_one (fun id h => no _ id h rfl) (k_st rfl rfl w3 (s_ord (fun id h => by rw [List.mem_singleton] at h; subst h; exact q3) ?_))
    refine s_one (fun id h => no _ id h rfl) (k_idxA (esz := 1) rfl rfl (by omega) (s_same ?_))
    refine s_one (fun id h => no _ id h rfl) (k_st rfl rfl w4 (s_free rfl ?_))
    refine s_nil ?_
    repeat' (first | refine w_seqN ?_ | refine w_blkN ?_ | refine w_ops ?_ | ((refine i_nil ?_); refine w_end6 rfl rfl rfl rfl rfl rfl ?_) | ((refine i_cons ?_); first | refine k_mv rfl ?_ | refine k_add rfl rfl (by omega) ?_))
    exact w_roundN ⟨k + 1, by omega, s4, rfl⟩ (by simp [cntD, Env.get]; omega)
  · have : k = 2 * vs.length := by omega
    subst this
    repeat' (first | refine w_seq ?_ | refine w_seqN ?_ | refine w_seqX ?_ | refine w_exit ?_ | refine w_ops ?_ | ((refine i_cond ?_); refine w_condF rfl ?_) | ((refine i_nil ?_); refine w_end7 rfl rfl rfl rfl rfl rfl rfl ?_) | ((refine i_cons ?_); first | refine k_mv rfl ?_ | refine k_mul rfl rfl (by omega) ?_ | refine k_lssF rfl rfl (by omega) ?_))
    exact w_roundX ⟨rfl, st, _, _, _, _, _, rfl⟩
/-- What Drawn answers. -/
theorem call22 (hk : HK 22 = none) (hk35 : HK 35 = none) (h0 : Heap) (o s : SV) (vs xs : List Int) (hg : Good vs) (hl : xs.length = vs.length) (ho : IsInts h0 o vs) (hs : IsInts h0 s xs) :
    ∃ v h', Cal FT HK 22 [.sc o, .sc s] h0 v h' ∧ Ext h0 h' ∧ ∃ t m, v = .agg [t, m, .int .i64 0] ∧ IsInts h' t xs ∧ IsInts h' m (mtD vs xs) := by
  refine Cal.of (F := a22) hk rfl rfl ?_
  have h64 := hg.2.1
  have h1n := hg.1
  have lo := IsSl.len ho
  repeat' (first | refine w_seq ?_ | refine w_seqN ?_ | refine w_ops ?_ | refine w_opsD ?_ | refine d_one ?_ | ((refine i_nil ?_); first | refine d_same ?_ | refine d_ext ⟨_, rfl⟩ ?_ | refine w_end3 rfl rfl rfl ?_ | refine w_end4 rfl rfl rfl rfl ?_) | ((refine i_cons ?_); first | (refine k_new3 ?_; intro h1 e1 l1 c1) | refine k_len rfl lo ?_ | refine k_mv rfl ?_ | refine k_ok rfl rfl ?_))
  have lit : ∀ {E : Env} {K : Env → Heap → Prop} {d : Option Nat} {r : List AOp} {z : SV} {h : Heap}, wOps FT HK r (bindE d (some (.sc (.slc h.length 0 0 (some 0)))) E) (h ++ [Blk.cells [] true 1]) K → wOps FT HK (⟨d, .bsl 1 [z] 0 [], none⟩ :: r) E h K := fun {E K d r z h} hw => op_ok (v := some (.sc (.slc h.length 0 0 (some 0)))) (h' := h ++ [.cells [] true 1]) rfl rfl (by simp [step1, evParts, fillA, rep]) hw
  have e2 : Ext h1 (h1 ++ [Blk.cells [] true 1]) := ⟨_, rfl⟩
  have o1 : Own h1 (h1 ++ [Blk.cells [] true 1]) (.slc h1.length 0 0 (some 0)) [] := .inr ⟨h1.length, some 0, [], rfl, Nat.le_refl _, by simp, rfl, rfl, Nat.le_refl _⟩
  have hsrc := IsInts.src (IsSl.ext hs (e1.trans e2))
  repeat' (first | refine w_seq ?_ | refine w_seqN ?_ | refine w_opsD ?_ | refine d_one ?_ | refine d_nil ?_ | ((refine i_nil ?_); first | refine d_same ?_ | refine d_ord ?_ | refine d_ext (by assumption) ?_ | refine w_end5 rfl rfl rfl rfl rfl ?_) | ((refine i_cons ?_); first | (refine k_app0 e2 o1 rfl rfl hsrc (by simp [bigN]; omega) ?_; intro t h3 o3 e3 f3) | (refine k_mkO (h0 := h3) (Ext.refl _) rfl rfl (by simp only [bigN]; omega) ?_; intro M h4 o4 e4 e4' l4) | refine k_bld rfl rfl ?_ | (refine k_new3 ?_; intro h5 e5 l5 c5) | (refine k_st3e rfl rfl c5 e5 (Nat.le_refl _) ?_; intro h6 e6 c6) | refine k_mv rfl ?_ | refine k_mul rfl rfl (by omega) ?_))
  have ez4 : (4 * (vs.length : Int)).toNat = 4 * vs.length := by omega
  rw [ez4] at o4
  repeat' (first | refine w_seq ?_ | refine w_seqN ?_ | refine w_blk ?_ | refine w_ops ?_ | refine d_one ?_ | refine d_nil ?_ | ((refine i_nil ?_); first | refine d_same ?_ | refine d_ext (by assumption) ?_ | refine w_end7 rfl rfl rfl rfl rfl rfl rfl ?_ | refine w_end8 rfl rfl rfl rfl rfl rfl rfl rfl ?_) | ((refine i_cons ?_); first | (have z := o7; refine k_mkO (h0 := h6) e7 rfl rfl (by simp only [bigN]; omega) ?_; intro B h8 o8 e8 e8' l8) | (refine k_mkO (h0 := h6) (Ext.refl _) rfl rfl (by simp only [bigN]; omega) ?_; intro A h7 o7 e7 e7' l7) | refine k_mv rfl ?_ | refine k_mul rfl rfl (by omega) ?_))
  have ez : (2 * (vs.length : Int)).toNat = 2 * vs.length := by omega
  rw [ez] at o7 o8
  have x16 : Ext h1 h6 := e2.trans (e3.trans (e4.trans e6))
  have x06 : Ext h0 h6 := e1.trans x16
  have ap : Ab.Apart A B := apart_newD o7 (own_fshD o8)
  have tw : Two h6 h8 A B (inD vs xs 0) (outD vs xs 0) := ⟨e8', by simpa [ints, inD] using o7.ext e8, by simpa [ints, outD] using o8.weaken e7.len, ap⟩
  refine w_loop (I22a h6 s o A B h0.length h4.length vs xs) (cntD vs.length 9) (R22a h6 A B h0.length h4.length vs xs) ⟨0, Nat.zero_le _, tw, rfl⟩ (round22a hk35 h6 s o A B h0.length h4.length vs xs hg hl (IsSl.ext hs x06) (IsSl.ext ho x06)) ?_
  rintro ex E' h9 ⟨rfl, s9, u1, u2, u3, u4, rfl⟩
  have iA : IsInts h9 A (inD vs xs vs.length) := Ab.Own.ids (xs := inD vs xs vs.length) s9.x
  have iB : IsInts h9 B (outD vs xs vs.length) := Ab.Own.ids (xs := outD vs xs vs.length) s9.y
  have n6 := e6.len
  have c6l := c6.lt
  have mb : Mb h3 h9 h4.length t M A B (inD vs xs vs.length) (outD vs xs vs.length) (mtT vs.length (inD vs xs vs.length) (outD vs xs vs.length) 0) :=
    ⟨e4.trans (e6.trans s9.e), c6.ext s9.e, by simpa [ints, mtT] using o4.ext (e6.trans s9.e), isSl_notD o4.sl (Nat.le_refl _), iA, iB, apart_newD (o4.ext e6) (own_fshD s9.x), apart_newD (o4.ext e6) (own_fshD s9.y)⟩
  repeat' (first | refine w_seq ?_ | refine w_seqN ?_ | refine w_blk ?_ | refine w_blkX ?_ | refine w_ops ?_ | ((refine i_nil ?_); refine w_end6 rfl rfl rfl rfl rfl rfl ?_) | ((refine i_cons ?_); refine k_mv rfl ?_))
  refine w_loop (I22b h3 t M A B h0.length h4.length vs xs) (cntD (2 * vs.length) 12) (R22b h3 t M A B h0.length h4.length vs xs) ⟨0, Nat.zero_le _, mb, rfl⟩ (round22b h3 t M A B h0.length h4.length vs xs (by omega) h64) ?_
  rintro ex E' h10 ⟨rfl, s10, u5, u6, u7, u8, u9, rfl⟩
  have c10 := c1.ext (e2.trans (e3.trans s10.e))
  have d10 := s10.c
  repeat' (first | refine w_seq ?_ | refine w_seqN ?_ | refine w_blkX ?_ | refine w_ret ?_ | refine w_ops ?_ | ((refine i_nil ?_); refine w_end1 rfl ?_) | ((refine i_cons ?_); first | refine k_ld3 rfl d10 ?_ | (refine k_st3 rfl rfl c10 ?_; intro h11 q11 c11)))
  have n1 := e1.len
  have n2 := e2.len
  have n3 : h1.length + 1 ≤ h3.length := by have := e3.len; simpa using this
  have x11 : Ext h0 h11 := by rw [q11]; exact (e1.trans (e2.trans (e3.trans s10.e))).set (Nat.le_refl _) _
  have tq : NotAt t h0.length := notAt_of_le o3 (by omega)
  have mq : NotAt M h0.length := notAt_of_le s10.m (by omega)
  refine ⟨.inr rfl, oK_cell rfl c11.read ⟨x11, t, M, rfl, ?_, ?_⟩⟩
  · rw [q11]
    exact IsSl.keep (IsSl.ext (Ab.Own.ids (xs := xs) o3) s10.e) fun j b hj hn => by rw [List.getElem?_set_ne (fun e => by subst e; exact hn tq)]; exact hj
  · rw [q11]
    exact Ab.Own.ids (xs := mtD vs xs) (own_set s10.m mq _)
end Go.Proofs.Ytooafhbjbpaacaa
