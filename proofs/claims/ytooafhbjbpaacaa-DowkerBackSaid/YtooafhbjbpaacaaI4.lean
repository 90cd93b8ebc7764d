/- isomorphic: contract. -/
import Derived.Test.YtooafhbjbpaacaaI1
import Derived.Test.YtooafhbjbpaacaaD1
namespace Go.Proofs.Ytooafhbjbpaacaa
open Go.Ab
set_option linter.unusedVariables false
set_option linter.unusedSimpArgs false
set_option maxRecDepth 20000
set_option maxHeartbeats 4000000
attribute [local irreducible] wOps wA wSeq wBlk wRound wRoundI wOpsD wOpsS
variable {HK : FuncId → Option Hook}

/-! ### The start -/
def I23f (hb : Heap) (p q : Nat) (u : SV) (n i : Nat) (E : Env) (h : Heap) : Prop := ∃ j : Nat, j ≤ n ∧ Ext hb h ∧ Own hb h u (ints (fillM n j)) ∧
  E = [(2, some (.sc (.ptr p 0))), (3, some (.sc (.ptr q 0))), (5, some (.sc (.int .i64 (n : Nat)))), (6, some (.sc (.int .i64 (i : Nat)))), (7, some (.sc u)), (39, some (.sc (.int .i64 (n : Nat)))), (40, some (.sc (.int .i64 (j : Nat))))]
def R23f (hb : Heap) (p q : Nat) (u : SV) (n i : Nat) (ex : Ex) (E : Env) (h : Heap) : Prop := ex = .ex 2 ∧ Ext hb h ∧ Own hb h u (ints (fillM n n)) ∧ ∃ a b c,
  E = [(2, some (.sc (.ptr p 0))), (3, some (.sc (.ptr q 0))), (5, some (.sc (.int .i64 (n : Nat)))), (6, some (.sc (.int .i64 (i : Nat)))), (7, some (.sc u)), (39, a), (40, b), (41, c)]
theorem round23f (hb : Heap) (p q : Nat) (u : SV) (n i : Nat) (hn : n ≤ 64) (E : Env) (h : Heap) (hI : I23f hb p q u n i E h) :
    wA FT HK b23L1 (E.keep [2, 3, 5, 6, 7, 39, 40]) h (wRound (I23f hb p q u n i) (cntD n 40) (cntD n 40 E h) (R23f hb p q u n i)) := by
  obtain ⟨j, hj, e, ow, rfl⟩ := hI
  by_cases hlt : j < n
  · obtain ⟨id2, cap2, h2, rfl, w2, o2, e2, f2, l2⟩ := Own.wr e ow (i := j) (by simp [ints, fill_len]; omega) (.int .i64 (-1))
    have hll : (ints (fillM n j)).length = n := by simp [ints, fill_len]
    rw [hll] at o2 ow f2 ⊢
    repeat' (first | refine w_seq ?_ | refine w_seqN ?_ | refine w_seqX ?_ | refine w_seqR ?_ | refine w_blk ?_ | refine w_blkN ?_ | refine w_blkX ?_ | refine w_blkR ?_ | refine w_skip ?_ | refine w_ret ?_ | refine w_exit ?_ | refine w_ops ?_ | refine w_opsD ?_ | refine d_one ?_ | refine d_nil ?_ | ((refine i_cond ?_); first | refine w_condT rfl ?_ | refine w_condF rfl ?_) | ((refine i_nil ?_); first | refine d_same ?_ | refine d_ord ?_ | refine d_ext ⟨_, rfl⟩ ?_ | refine d_ext (extA _ _ _) ?_ | refine d_ext (by assumption) ?_ | refine w_end0 ?_ | refine w_end1 rfl ?_ | refine w_end2 rfl rfl ?_ | refine w_end3 rfl rfl rfl ?_ | refine w_end4 rfl rfl rfl rfl ?_ | refine w_end5 rfl rfl rfl rfl rfl ?_ | refine w_end6 rfl rfl rfl rfl rfl rfl ?_ | refine w_end7 rfl rfl rfl rfl rfl rfl rfl ?_ | refine w_end8 rfl rfl rfl rfl rfl rfl rfl rfl ?_ | refine w_end9 rfl rfl rfl rfl rfl rfl rfl rfl rfl ?_ | refine w_end10 rfl rfl rfl rfl rfl rfl rfl rfl rfl rfl ?_ | refine w_end11 rfl rfl rfl rfl rfl rfl rfl rfl rfl rfl rfl ?_ | refine w_end12 rfl rfl rfl rfl rfl rfl rfl rfl rfl rfl rfl rfl ?_ | refine w_end13 rfl rfl rfl rfl rfl rfl rfl rfl rfl rfl rfl rfl rfl ?_ | refine w_end14 rfl rfl rfl rfl rfl rfl rfl rfl rfl rfl rfl rfl rfl rfl ?_ | refine w_end15 rfl rfl rfl rfl rfl rfl rfl rfl rfl rfl rfl rfl rfl rfl rfl ?_ | refine w_end16 rfl rfl rfl rfl rfl rfl rfl rfl rfl rfl rfl rfl rfl rfl rfl rfl ?_) | ((refine i_cons ?_); first | refine k_idxA (esz := 1) rfl rfl (by omega) ?_ | refine k_st rfl rfl w2 ?_ | refine k_skip rfl ?_ | refine k_skipU rfl ?_ | refine k_want rfl ?_ | refine k_mv rfl ?_ | refine k_pickT rfl rfl ?_ | refine k_pickF rfl rfl ?_ | refine k_notT rfl ?_ | refine k_notF rfl ?_ | refine k_add rfl rfl (by omega) ?_ | refine k_sub rfl rfl (by omega) ?_ | refine k_mul rfl rfl (by omega) ?_ | refine k_neg rfl (by omega) ?_ | refine k_quo rfl rfl (by omega) ?_ | refine k_rem rfl rfl (by omega) ?_ | refine k_conv rfl (by omega) ?_ | refine k_max rfl rfl ?_ | refine k_min rfl rfl ?_ | refine k_lssT rfl rfl (by omega) ?_ | refine k_lssF rfl rfl (by omega) ?_ | refine k_lss rfl rfl (fun hc => ?_) (fun hc => ?_) | refine k_leqT rfl rfl (by omega) ?_ | refine k_leqF rfl rfl (by omega) ?_ | refine k_leq rfl rfl (fun hc => ?_) (fun hc => ?_) | refine k_gtrT rfl rfl (by omega) ?_ | refine k_gtrF rfl rfl (by omega) ?_ | refine k_gtr rfl rfl (fun hc => ?_) (fun hc => ?_) | refine k_geqT rfl rfl (by omega) ?_ | refine k_geqF rfl rfl (by omega) ?_ | refine k_geq rfl rfl (fun hc => ?_) (fun hc => ?_) | refine k_eqlT rfl rfl (by omega) ?_ | refine k_eqlF rfl rfl (by omega) ?_ | refine k_eql rfl rfl (fun hc => ?_) (fun hc => ?_) | refine k_neqT rfl rfl (by omega) ?_ | refine k_neqF rfl rfl (by omega) ?_ | refine k_neq rfl rfl (fun hc => ?_) (fun hc => ?_) | refine k_len rfl rfl ?_ | refine k_ok rfl rfl ?_))
    exact w_roundN ⟨j + 1, by omega, e2, by rw [fill_next hlt]; simpa [ints, List.map_set] using o2, rfl⟩ (by simp [cntD, Env.get]; omega)
  · have : j = n := by omega
    subst this
    repeat' (first | refine w_seq ?_ | refine w_seqN ?_ | refine w_seqX ?_ | refine w_seqR ?_ | refine w_blk ?_ | refine w_blkN ?_ | refine w_blkX ?_ | refine w_blkR ?_ | refine w_skip ?_ | refine w_ret ?_ | refine w_exit ?_ | refine w_ops ?_ | refine w_opsD ?_ | refine d_one ?_ | refine d_nil ?_ | ((refine i_cond ?_); first | refine w_condT rfl ?_ | refine w_condF rfl ?_) | ((refine i_nil ?_); first | refine d_same ?_ | refine d_ord ?_ | refine d_ext ⟨_, rfl⟩ ?_ | refine d_ext (extA _ _ _) ?_ | refine d_ext (by assumption) ?_ | refine w_end0 ?_ | refine w_end1 rfl ?_ | refine w_end2 rfl rfl ?_ | refine w_end3 rfl rfl rfl ?_ | refine w_end4 rfl rfl rfl rfl ?_ | refine w_end5 rfl rfl rfl rfl rfl ?_ | refine w_end6 rfl rfl rfl rfl rfl rfl ?_ | refine w_end7 rfl rfl rfl rfl rfl rfl rfl ?_ | refine w_end8 rfl rfl rfl rfl rfl rfl rfl rfl ?_ | refine w_end9 rfl rfl rfl rfl rfl rfl rfl rfl rfl ?_ | refine w_end10 rfl rfl rfl rfl rfl rfl rfl rfl rfl rfl ?_ | refine w_end11 rfl rfl rfl rfl rfl rfl rfl rfl rfl rfl rfl ?_ | refine w_end12 rfl rfl rfl rfl rfl rfl rfl rfl rfl rfl rfl rfl ?_ | refine w_end13 rfl rfl rfl rfl rfl rfl rfl rfl rfl rfl rfl rfl rfl ?_ | refine w_end14 rfl rfl rfl rfl rfl rfl rfl rfl rfl rfl rfl rfl rfl rfl ?_ | refine w_end15 rfl rfl rfl rfl rfl rfl rfl rfl rfl rfl rfl rfl rfl rfl rfl ?_ | refine w_end16 rfl rfl rfl rfl rfl rfl rfl rfl rfl rfl rfl rfl rfl rfl rfl rfl ?_) | ((refine i_cons ?_); first | refine k_skip rfl ?_ | refine k_skipU rfl ?_ | refine k_want rfl ?_ | refine k_mv rfl ?_ | refine k_pickT rfl rfl ?_ | refine k_pickF rfl rfl ?_ | refine k_notT rfl ?_ | refine k_notF rfl ?_ | refine k_add rfl rfl (by omega) ?_ | refine k_sub rfl rfl (by omega) ?_ | refine k_mul rfl rfl (by omega) ?_ | refine k_neg rfl (by omega) ?_ | refine k_quo rfl rfl (by omega) ?_ | refine k_rem rfl rfl (by omega) ?_ | refine k_conv rfl (by omega) ?_ | refine k_max rfl rfl ?_ | refine k_min rfl rfl ?_ | refine k_lssT rfl rfl (by omega) ?_ | refine k_lssF rfl rfl (by omega) ?_ | refine k_lss rfl rfl (fun hc => ?_) (fun hc => ?_) | refine k_leqT rfl rfl (by omega) ?_ | refine k_leqF rfl rfl (by omega) ?_ | refine k_leq rfl rfl (fun hc => ?_) (fun hc => ?_) | refine k_gtrT rfl rfl (by omega) ?_ | refine k_gtrF rfl rfl (by omega) ?_ | refine k_gtr rfl rfl (fun hc => ?_) (fun hc => ?_) | refine k_geqT rfl rfl (by omega) ?_ | refine k_geqF rfl rfl (by omega) ?_ | refine k_geq rfl rfl (fun hc => ?_) (fun hc => ?_) | refine k_eqlT rfl rfl (by omega) ?_ | refine k_eqlF rfl rfl (by omega) ?_ | refine k_eql rfl rfl (fun hc => ?_) (fun hc => ?_) | refine k_neqT rfl rfl (by omega) ?_ | refine k_neqF rfl rfl (by omega) ?_ | refine k_neq rfl rfl (fun hc => ?_) (fun hc => ?_) | refine k_len rfl rfl ?_ | refine k_ok rfl rfl ?_))
    exact w_roundX ⟨rfl, e, ow, _, _, _, rfl⟩
/-! ### One pass -/
/-- What the loops read. -/
structure Rd (hb : Heap) (p q : Nat) (s m s2 m2 : SV) (xs ms xs' ms' : List Int) (n : Nat) : Prop where
  n64 : n ≤ 64
  b1 : Blk.At hb p [s, m, .int .i64 0]
  b2 : Blk.At hb q [s2, m2, .int .i64 0]
  is : IsInts hb s xs
  im : IsInts hb m ms
  is2 : IsInts hb s2 xs'
  im2 : IsInts hb m2 ms'
  lx : xs.length = n
  lx2 : xs'.length = n
  lm : ms.length = 4 * n
  lm2 : ms'.length = 4 * n
  mm : Mates ms
  mm2 : Mates ms'
theorem Rd.ext {hb h : Heap} {p q : Nat} {s m s2 m2 : SV} {xs ms xs' ms' : List Int} {n : Nat} (r : Rd hb p q s m s2 m2 xs ms xs' ms' n) (e : Ext hb h) : Rd h p q s m s2 m2 xs ms xs' ms' n :=
  ⟨r.n64, r.b1.ext e, r.b2.ext e, IsSl.ext r.is e, IsSl.ext r.im e, IsSl.ext r.is2 e, IsSl.ext r.im2 e, r.lx, r.lx2, r.lm, r.lm2, r.mm, r.mm2⟩
def I23p (hb : Heap) (p q : Nat) (u : SV) (ms ms' T : List Int) (b : Bool) (n i k : Nat) (E : Env) (h : Heap) : Prop := ∃ j : Nat, j ≤ 4 * n ∧ Ext hb h ∧ Own hb h u (ints (ps ms ms' T b j).1) ∧
  E = [(2, some (.sc (.ptr p 0))), (3, some (.sc (.ptr q 0))), (5, some (.sc (.int .i64 (n : Nat)))), (6, some (.sc (.int .i64 (i : Nat)))), (7, some (.sc u)), (9, some (.sc (.bool (ps ms ms' T b j).2))), (10, some (.sc (.int .i64 (k : Nat)))), (11, some (.sc (.int .i64 (j : Nat))))]
def R23p (hb : Heap) (p q : Nat) (u : SV) (ms ms' T : List Int) (b : Bool) (n i k : Nat) (ex : Ex) (E : Env) (h : Heap) : Prop := ex = .ex 6 ∧ Ext hb h ∧ Own hb h u (ints (ps ms ms' T b (4 * n)).1) ∧ ∃ a c,
  E = [(2, some (.sc (.ptr p 0))), (3, some (.sc (.ptr q 0))), (5, some (.sc (.int .i64 (n : Nat)))), (6, some (.sc (.int .i64 (i : Nat)))), (7, some (.sc u)), (9, some (.sc (.bool (ps ms ms' T b (4 * n)).2))), (10, some (.sc (.int .i64 (k : Nat)))), (11, a), (58, c)]
theorem round23p (hb : Heap) (p q : Nat) (s m s2 m2 u : SV) (xs ms xs' ms' T : List Int) (b : Bool) (n i k : Nat) (rd : Rd hb p q s m s2 m2 xs ms xs' ms' n) (hT0 : Rng n T) (E : Env) (h : Heap) (hI : I23p hb p q u ms ms' T b n i k E h) :
    wA FT HK b23L3 (E.keep [2, 3, 5, 6, 7, 9, 10, 11]) h (wRound (I23p hb p q u ms ms' T b n i k) (cntD (4 * n) 11) (cntD (4 * n) 11 E h) (R23p hb p q u ms ms' T b n i k)) := by
  obtain ⟨j, hj, e, ow, rfl⟩ := hI
  have hn := rd.n64
  by_cases hlt : j < 4 * n
  · have hT := ps_rng (b := b) rd.mm rd.mm2 rd.lm rd.lm2 hT0 (h := j) (by omega)
    have en : ps ms ms' T b (j + 1) = (stT ms ms' (ps ms ms' T b j).1 j, stB ms ms' (ps ms ms' T b j).1 (ps ms ms' T b j).2 j) := rfl
    have fin : ∀ {h' : Heap}, Ext hb h' → Own hb h' u (ints (stT ms ms' (ps ms ms' T b j).1 j)) → wRound (I23p hb p q u ms ms' T b n i k) (cntD (4 * n) 11) (4 * n - j) (R23p hb p q u ms ms' T b n i k) .nm [(2, some (.sc (.ptr p 0))), (3, some (.sc (.ptr q 0))), (5, some (.sc (.int .i64 (n : Nat)))), (6, some (.sc (.int .i64 (i : Nat)))), (7, some (.sc u)), (9, some (.sc (.bool (stB ms ms' (ps ms ms' T b j).1 (ps ms ms' T b j).2 j)))), (10, some (.sc (.int .i64 (k : Nat)))), (11, some (.sc (.int .i64 ((j : Int) + 1))))] h' := fun e' o' =>
      w_roundN ⟨j + 1, by omega, e', by rw [en]; exact o', by rw [en]; rfl⟩ (by simp [cntD, Env.get]; omega)
    have eμ : cntD (4 * n) 11 [(2, some (AV.sc (.ptr p 0))), (3, some (.sc (.ptr q 0))), (5, some (.sc (.int .i64 (n : Nat)))), (6, some (.sc (.int .i64 (i : Nat)))), (7, some (.sc u)), (9, some (.sc (.bool (ps ms ms' T b j).2))), (10, some (.sc (.int .i64 (k : Nat)))), (11, some (.sc (.int .i64 (j : Nat))))] h = 4 * n - j := by simp [cntD, Env.get]
    rw [eμ]
    generalize (ps ms ms' T b j).2 = bb at *
    generalize (ps ms ms' T b j).1 = T at *
    have r := rd.ext e
    obtain ⟨hTl, hTr⟩ := hT
    obtain ⟨hx1, hx2⟩ := hTr (j / 4) (by omega)
    obtain ⟨x, hxv⟩ : ∃ x, T.getD (j / 4) 0 = x := ⟨_, rfl⟩
    have hx : (ints T)[j / 4]? = some (.int .i64 x) := by
      rw [← hxv]
      simp [ints, List.getD, show j / 4 < T.length by omega]
    rw [hxv] at hx1 hx2
    obtain ⟨id, cap, rfl, rx⟩ := Own.rd ow hx
    have i1 : (((j : Nat) : Int) / 4).toNat = j / 4 := by omega
    have hll : (ints T).length = n := by simp [ints, hTl]
    rw [← i1] at rx
    simp only [hll] at fin ow ⊢
    by_cases hneg : x < 0
    · have e1 : stT ms ms' T j = T := by unfold stT; rw [if_pos (by omega)]
      have e2 : stB ms ms' T bb j = bb := by unfold stB; rw [if_pos (by omega)]
      rw [e1, e2] at fin
      repeat' (first | refine w_seq ?_ | refine w_seqN ?_ | refine w_seqX ?_ | refine w_seqR ?_ | refine w_blk ?_ | refine w_blkN ?_ | refine w_blkX ?_ | refine w_blkR ?_ | refine w_skip ?_ | refine w_ret ?_ | refine w_exit ?_ | refine w_ops ?_ | refine w_opsD ?_ | refine d_one ?_ | refine d_nil ?_ | ((refine i_cond ?_); first | refine w_condT rfl ?_ | refine w_condF rfl ?_) | ((refine i_nil ?_); first | refine d_same ?_ | refine d_ord ?_ | refine d_ext ⟨_, rfl⟩ ?_ | refine d_ext (extA _ _ _) ?_ | refine d_ext (by assumption) ?_ | refine w_end0 ?_ | refine w_end1 rfl ?_ | refine w_end2 rfl rfl ?_ | refine w_end3 rfl rfl rfl ?_ | refine w_end4 rfl rfl rfl rfl ?_ | refine w_end5 rfl rfl rfl rfl rfl ?_ | refine w_end6 rfl rfl rfl rfl rfl rfl ?_ | refine w_end7 rfl rfl rfl rfl rfl rfl rfl ?_ | refine w_end8 rfl rfl rfl rfl rfl rfl rfl rfl ?_ | refine w_end9 rfl rfl rfl rfl rfl rfl rfl rfl rfl ?_ | refine w_end10 rfl rfl rfl rfl rfl rfl rfl rfl rfl rfl ?_ | refine w_end11 rfl rfl rfl rfl rfl rfl rfl rfl rfl rfl rfl ?_ | refine w_end12 rfl rfl rfl rfl rfl rfl rfl rfl rfl rfl rfl rfl ?_ | refine w_end13 rfl rfl rfl rfl rfl rfl rfl rfl rfl rfl rfl rfl rfl ?_ | refine w_end14 rfl rfl rfl rfl rfl rfl rfl rfl rfl rfl rfl rfl rfl rfl ?_ | refine w_end15 rfl rfl rfl rfl rfl rfl rfl rfl rfl rfl rfl rfl rfl rfl rfl ?_ | refine w_end16 rfl rfl rfl rfl rfl rfl rfl rfl rfl rfl rfl rfl rfl rfl rfl rfl ?_) | ((refine i_cons ?_); first | refine k_idxA (esz := 1) rfl rfl (by omega) ?_ | refine k_ld rfl rx ?_ | (refine k_quo rfl rfl (by omega) ?_) | refine k_skip rfl ?_ | refine k_skipU rfl ?_ | refine k_want rfl ?_ | refine k_mv rfl ?_ | refine k_pickT rfl rfl ?_ | refine k_pickF rfl rfl ?_ | refine k_notT rfl ?_ | refine k_notF rfl ?_ | refine k_add rfl rfl (by omega) ?_ | refine k_sub rfl rfl (by omega) ?_ | refine k_mul rfl rfl (by omega) ?_ | refine k_neg rfl (by omega) ?_ | refine k_quo rfl rfl (by omega) ?_ | refine k_rem rfl rfl (by omega) ?_ | refine k_conv rfl (by omega) ?_ | refine k_max rfl rfl ?_ | refine k_min rfl rfl ?_ | refine k_lssT rfl rfl (by omega) ?_ | refine k_lssF rfl rfl (by omega) ?_ | refine k_lss rfl rfl (fun hc => ?_) (fun hc => ?_) | refine k_leqT rfl rfl (by omega) ?_ | refine k_leqF rfl rfl (by omega) ?_ | refine k_leq rfl rfl (fun hc => ?_) (fun hc => ?_) | refine k_gtrT rfl rfl (by omega) ?_ | refine k_gtrF rfl rfl (by omega) ?_ | refine k_gtr rfl rfl (fun hc => ?_) (fun hc => ?_) | refine k_geqT rfl rfl (by omega) ?_ | refine k_geqF rfl rfl (by omega) ?_ | refine k_geq rfl rfl (fun hc => ?_) (fun hc => ?_) | refine k_eqlT rfl rfl (by omega) ?_ | refine k_eqlF rfl rfl (by omega) ?_ | refine k_eql rfl rfl (fun hc => ?_) (fun hc => ?_) | refine k_neqT rfl rfl (by omega) ?_ | refine k_neqF rfl rfl (by omega) ?_ | refine k_neq rfl rfl (fun hc => ?_) (fun hc => ?_) | refine k_len rfl rfl ?_ | refine k_ok rfl rfl ?_))
      exact fin e ow
    · obtain ⟨X, rfl⟩ : ∃ X : Nat, x = X := ⟨x.toNat, by omega⟩
      have hXn : X < n := by omega
      obtain ⟨g, hgv⟩ : ∃ g, mateN ms j = g := ⟨_, rfl⟩
      obtain ⟨y, hyv⟩ : ∃ y, mateN ms' (4 * X + j % 4) = y := ⟨_, rfl⟩
      obtain ⟨hg1, hg2⟩ := mate_lt rd.mm (h := j) (by rw [rd.lm]; omega)
      obtain ⟨hy1, hy2⟩ := mate_lt rd.mm2 (h := 4 * X + j % 4) (by rw [rd.lm2]; omega)
      rw [rd.lm, hgv] at hg1
      rw [rd.lm2, hyv] at hy1
      rw [hgv] at hg2
      rw [hyv] at hy2
      obtain ⟨idm, offm, capm, em, rm⟩ := IsInts.at r.im hg2
      obtain ⟨idn, offn, capn, en2, rn⟩ := IsInts.at r.im2 hy2
      have b1 := r.b1
      have b2 := r.b2
      have lmz := rd.lm
      have lmz2 := rd.lm2
      rw [lmz] at em
      rw [lmz2] at en2
      rw [em] at b1
      rw [en2] at b2
      have hz := hTr (g / 4) (by omega)
      obtain ⟨z, hzv⟩ : ∃ z, T.getD (g / 4) 0 = z := ⟨_, rfl⟩
      have hz2 : (ints T)[g / 4]? = some (.int .i64 z) := by
        rw [← hzv]
        simp [ints, List.getD, show g / 4 < T.length by omega]
      obtain ⟨id', cap', eu, rz⟩ := Own.rd ow hz2
      simp only [hll] at eu
      cases eu
      have eT : stT ms ms' T j = if z < 0 then T.set (g / 4) ((y / 4 : Nat) : Int) else T := by
        unfold stT
        rw [if_neg (by omega), hxv, Int.toNat_natCast, hgv, hyv, hzv]
      have eB : stB ms ms' T bb j = (bb && decide ((y : Int) = 4 * (stT ms ms' T j).getD (g / 4) 0 + ((g % 4 : Nat) : Int))) := by
        unfold stB
        rw [if_neg (by omega), hxv, Int.toNat_natCast, hgv, hyv]
      rw [eB] at fin
      have i2 : (4 * (X : Int) + ((j : Nat) : Int) % 4).toNat = 4 * X + j % 4 := by omega
      rw [← i2] at rn
      have i3 : (((g : Nat) : Int) / 4).toNat = g / 4 := by omega
      rw [hzv] at hz
      have gm : ((g % 4 : Nat) : Int) = (g : Int) % 4 := by omega
      rw [gm] at fin
      by_cases hzn : z < 0
      · rw [if_pos hzn] at eT
        have e3 : (T.set (g / 4) ((y / 4 : Nat) : Int)).getD (g / 4) 0 = ((y / 4 : Nat) : Int) := by rw [getD_set1 (by omega), if_pos rfl]
        rw [eT, e3] at fin
        have yd : ((y / 4 : Nat) : Int) = (y : Int) / 4 := by omega
        obtain ⟨id3, cap3, h2, eu3, w2, o2, e2, f2, l2⟩ := Own.wr e ow (i := g / 4) (by simp [ints, hTl]; omega) (.int .i64 (((y : Nat) : Int) / 4))
        simp only [hll] at eu3
        cases eu3
        have o3 : Own hb h2 (.slc id 0 n cap) (ints (T.set (g / 4) ((y / 4 : Nat) : Int))) := by
          simpa [ints, List.map_set] using o2
        have hz3 : (ints (T.set (g / 4) ((y / 4 : Nat) : Int)))[g / 4]? = some (.int .i64 (((y : Nat) : Int) / 4)) := by
          rw [ints, List.getElem?_map, List.getElem?_set_self (by omega), ← yd]; rfl
        obtain ⟨id4, cap4, eu4, rz4⟩ := Own.rd o3 hz3
        have hl4 : (ints (T.set (g / 4) ((y / 4 : Nat) : Int))).length = n := by simp [ints, hTl]
        simp only [hl4] at eu4
        cases eu4
        have r2 := rd.ext e2
        have fin2 := fin e2 o3
        rw [yd] at fin2
        obtain ⟨idm2, offm2, capm2, em2, rm2⟩ := IsInts.at r2.im hg2
        have b12 := r2.b1
        rw [lmz] at em2
        rw [em] at em2
        cases em2
        rw [em] at b12
        rw [← i3] at rz rz4 w2
        cases bb with
        | false =>
          simp only [Bool.false_and] at fin2
          repeat' (first | refine w_seq ?_ | refine w_seqN ?_ | refine w_seqX ?_ | refine w_seqR ?_ | refine w_blk ?_ | refine w_blkN ?_ | refine w_blkX ?_ | refine w_blkR ?_ | refine w_skip ?_ | refine w_ret ?_ | refine w_exit ?_ | refine w_ops ?_ | refine w_opsD ?_ | refine d_one ?_ | refine d_nil ?_ | ((refine i_cond ?_); first | refine w_condT rfl ?_ | refine w_condF rfl ?_) | ((refine i_nil ?_); first | refine d_same ?_ | refine d_ord ?_ | refine d_ext ⟨_, rfl⟩ ?_ | refine d_ext (extA _ _ _) ?_ | refine d_ext (by assumption) ?_ | refine w_end0 ?_ | refine w_end1 rfl ?_ | refine w_end2 rfl rfl ?_ | refine w_end3 rfl rfl rfl ?_ | refine w_end4 rfl rfl rfl rfl ?_ | refine w_end5 rfl rfl rfl rfl rfl ?_ | refine w_end6 rfl rfl rfl rfl rfl rfl ?_ | refine w_end7 rfl rfl rfl rfl rfl rfl rfl ?_ | refine w_end8 rfl rfl rfl rfl rfl rfl rfl rfl ?_ | refine w_end9 rfl rfl rfl rfl rfl rfl rfl rfl rfl ?_ | refine w_end10 rfl rfl rfl rfl rfl rfl rfl rfl rfl rfl ?_ | refine w_end11 rfl rfl rfl rfl rfl rfl rfl rfl rfl rfl rfl ?_ | refine w_end12 rfl rfl rfl rfl rfl rfl rfl rfl rfl rfl rfl rfl ?_ | refine w_end13 rfl rfl rfl rfl rfl rfl rfl rfl rfl rfl rfl rfl rfl ?_ | refine w_end14 rfl rfl rfl rfl rfl rfl rfl rfl rfl rfl rfl rfl rfl rfl ?_ | refine w_end15 rfl rfl rfl rfl rfl rfl rfl rfl rfl rfl rfl rfl rfl rfl rfl ?_ | refine w_end16 rfl rfl rfl rfl rfl rfl rfl rfl rfl rfl rfl rfl rfl rfl rfl rfl ?_) | ((refine i_cons ?_); first | refine k_idxA (esz := 1) rfl rfl (by omega) ?_ | refine k_ld rfl rx ?_ | refine k_ld rfl rn ?_ | refine k_ld rfl rm ?_ | refine k_ld rfl rz ?_ | refine k_ld rfl rm2 ?_ | refine k_ld rfl rz4 ?_ | (refine k_quo rfl rfl (by omega) ?_) | (refine k_rem rfl rfl (by omega) ?_) | refine k_fldA rfl ?_ | refine k_ldb rfl b1 rfl ?_ | refine k_ldb rfl b2 rfl ?_ | refine k_ldb rfl b12 rfl ?_ | refine k_st rfl rfl w2 ?_ | refine k_skip rfl ?_ | refine k_skipU rfl ?_ | refine k_want rfl ?_ | refine k_mv rfl ?_ | refine k_pickT rfl rfl ?_ | refine k_pickF rfl rfl ?_ | refine k_notT rfl ?_ | refine k_notF rfl ?_ | refine k_add rfl rfl (by omega) ?_ | refine k_sub rfl rfl (by omega) ?_ | refine k_mul rfl rfl (by omega) ?_ | refine k_neg rfl (by omega) ?_ | refine k_quo rfl rfl (by omega) ?_ | refine k_rem rfl rfl (by omega) ?_ | refine k_conv rfl (by omega) ?_ | refine k_max rfl rfl ?_ | refine k_min rfl rfl ?_ | refine k_lssT rfl rfl (by omega) ?_ | refine k_lssF rfl rfl (by omega) ?_ | refine k_lss rfl rfl (fun hc => ?_) (fun hc => ?_) | refine k_leqT rfl rfl (by omega) ?_ | refine k_leqF rfl rfl (by omega) ?_ | refine k_leq rfl rfl (fun hc => ?_) (fun hc => ?_) | refine k_gtrT rfl rfl (by omega) ?_ | refine k_gtrF rfl rfl (by omega) ?_ | refine k_gtr rfl rfl (fun hc => ?_) (fun hc => ?_) | refine k_geqT rfl rfl (by omega) ?_ | refine k_geqF rfl rfl (by omega) ?_ | refine k_geq rfl rfl (fun hc => ?_) (fun hc => ?_) | refine k_eqlT rfl rfl (by omega) ?_ | refine k_eqlF rfl rfl (by omega) ?_ | refine k_eql rfl rfl (fun hc => ?_) (fun hc => ?_) | refine k_neqT rfl rfl (by omega) ?_ | refine k_neqF rfl rfl (by omega) ?_ | refine k_neq rfl rfl (fun hc => ?_) (fun hc => ?_) | refine k_len rfl rfl ?_ | refine k_ok rfl rfl ?_))
          exact fin2
        | true =>
          simp only [Bool.true_and] at fin2
          by_cases he : (y : Int) = 4 * ((y : Int) / 4) + (g : Int) % 4
          · rw [decide_eq_true he] at fin2
            repeat' (first | refine w_seq ?_ | refine w_seqN ?_ | refine w_seqX ?_ | refine w_seqR ?_ | refine w_blk ?_ | refine w_blkN ?_ | refine w_blkX ?_ | refine w_blkR ?_ | refine w_skip ?_ | refine w_ret ?_ | refine w_exit ?_ | refine w_ops ?_ | refine w_opsD ?_ | refine d_one ?_ | refine d_nil ?_ | ((refine i_cond ?_); first | refine w_condT rfl ?_ | refine w_condF rfl ?_) | ((refine i_nil ?_); first | refine d_same ?_ | refine d_ord ?_ | refine d_ext ⟨_, rfl⟩ ?_ | refine d_ext (extA _ _ _) ?_ | refine d_ext (by assumption) ?_ | refine w_end0 ?_ | refine w_end1 rfl ?_ | refine w_end2 rfl rfl ?_ | refine w_end3 rfl rfl rfl ?_ | refine w_end4 rfl rfl rfl rfl ?_ | refine w_end5 rfl rfl rfl rfl rfl ?_ | refine w_end6 rfl rfl rfl rfl rfl rfl ?_ | refine w_end7 rfl rfl rfl rfl rfl rfl rfl ?_ | refine w_end8 rfl rfl rfl rfl rfl rfl rfl rfl ?_ | refine w_end9 rfl rfl rfl rfl rfl rfl rfl rfl rfl ?_ | refine w_end10 rfl rfl rfl rfl rfl rfl rfl rfl rfl rfl ?_ | refine w_end11 rfl rfl rfl rfl rfl rfl rfl rfl rfl rfl rfl ?_ | refine w_end12 rfl rfl rfl rfl rfl rfl rfl rfl rfl rfl rfl rfl ?_ | refine w_end13 rfl rfl rfl rfl rfl rfl rfl rfl rfl rfl rfl rfl rfl ?_ | refine w_end14 rfl rfl rfl rfl rfl rfl rfl rfl rfl rfl rfl rfl rfl rfl ?_ | refine w_end15 rfl rfl rfl rfl rfl rfl rfl rfl rfl rfl rfl rfl rfl rfl rfl ?_ | refine w_end16 rfl rfl rfl rfl rfl rfl rfl rfl rfl rfl rfl rfl rfl rfl rfl rfl ?_) | ((refine i_cons ?_); first | refine k_idxA (esz := 1) rfl rfl (by omega) ?_ | refine k_ld rfl rx ?_ | refine k_ld rfl rn ?_ | refine k_ld rfl rm ?_ | refine k_ld rfl rz ?_ | refine k_ld rfl rm2 ?_ | refine k_ld rfl rz4 ?_ | (refine k_quo rfl rfl (by omega) ?_) | (refine k_rem rfl rfl (by omega) ?_) | refine k_fldA rfl ?_ | refine k_ldb rfl b1 rfl ?_ | refine k_ldb rfl b2 rfl ?_ | refine k_ldb rfl b12 rfl ?_ | refine k_st rfl rfl w2 ?_ | refine k_skip rfl ?_ | refine k_skipU rfl ?_ | refine k_want rfl ?_ | refine k_mv rfl ?_ | refine k_pickT rfl rfl ?_ | refine k_pickF rfl rfl ?_ | refine k_notT rfl ?_ | refine k_notF rfl ?_ | refine k_add rfl rfl (by omega) ?_ | refine k_sub rfl rfl (by omega) ?_ | refine k_mul rfl rfl (by omega) ?_ | refine k_neg rfl (by omega) ?_ | refine k_quo rfl rfl (by omega) ?_ | refine k_rem rfl rfl (by omega) ?_ | refine k_conv rfl (by omega) ?_ | refine k_max rfl rfl ?_ | refine k_min rfl rfl ?_ | refine k_lssT rfl rfl (by omega) ?_ | refine k_lssF rfl rfl (by omega) ?_ | refine k_lss rfl rfl (fun hc => ?_) (fun hc => ?_) | refine k_leqT rfl rfl (by omega) ?_ | refine k_leqF rfl rfl (by omega) ?_ | refine k_leq rfl rfl (fun hc => ?_) (fun hc => ?_) | refine k_gtrT rfl rfl (by omega) ?_ | refine k_gtrF rfl rfl (by omega) ?_ | refine k_gtr rfl rfl (fun hc => ?_) (fun hc => ?_) | refine k_geqT rfl rfl (by omega) ?_ | refine k_geqF rfl rfl (by omega) ?_ | refine k_geq rfl rfl (fun hc => ?_) (fun hc => ?_) | refine k_eqlT rfl rfl (by omega) ?_ | refine k_eqlF rfl rfl (by omega) ?_ | refine k_eql rfl rfl (fun hc => ?_) (fun hc => ?_) | refine k_neqT rfl rfl (by omega) ?_ | refine k_neqF rfl rfl (by omega) ?_ | refine k_neq rfl rfl (fun hc => ?_) (fun hc => ?_) | refine k_len rfl rfl ?_ | refine k_ok rfl rfl ?_))
            exact fin2
          · rw [decide_eq_false he] at fin2
            repeat' (first | refine w_seq ?_ | refine w_seqN ?_ | refine w_seqX ?_ | refine w_seqR ?_ | refine w_blk ?_ | refine w_blkN ?_ | refine w_blkX ?_ | refine w_blkR ?_ | refine w_skip ?_ | refine w_ret ?_ | refine w_exit ?_ | refine w_ops ?_ | refine w_opsD ?_ | refine d_one ?_ | refine d_nil ?_ | ((refine i_cond ?_); first | refine w_condT rfl ?_ | refine w_condF rfl ?_) | ((refine i_nil ?_); first | refine d_same ?_ | refine d_ord ?_ | refine d_ext ⟨_, rfl⟩ ?_ | refine d_ext (extA _ _ _) ?_ | refine d_ext (by assumption) ?_ | refine w_end0 ?_ | refine w_end1 rfl ?_ | refine w_end2 rfl rfl ?_ | refine w_end3 rfl rfl rfl ?_ | refine w_end4 rfl rfl rfl rfl ?_ | refine w_end5 rfl rfl rfl rfl rfl ?_ | refine w_end6 rfl rfl rfl rfl rfl rfl ?_ | refine w_end7 rfl rfl rfl rfl rfl rfl rfl ?_ | refine w_end8 rfl rfl rfl rfl rfl rfl rfl rfl ?_ | refine w_end9 rfl rfl rfl rfl rfl rfl rfl rfl rfl ?_ | refine w_end10 rfl rfl rfl rfl rfl rfl rfl rfl rfl rfl ?_ | refine w_end11 rfl rfl rfl rfl rfl rfl rfl rfl rfl rfl rfl ?_ | refine w_end12 rfl rfl rfl rfl rfl rfl rfl rfl rfl rfl rfl rfl ?_ | refine w_end13 rfl rfl rfl rfl rfl rfl rfl rfl rfl rfl rfl rfl rfl ?_ | refine w_end14 rfl rfl rfl rfl rfl rfl rfl rfl rfl rfl rfl rfl rfl rfl ?_ | refine w_end15 rfl rfl rfl rfl rfl rfl rfl rfl rfl rfl rfl rfl rfl rfl rfl ?_ | refine w_end16 rfl rfl rfl rfl rfl rfl rfl rfl rfl rfl rfl rfl rfl rfl rfl rfl ?_) | ((refine i_cons ?_); first | refine k_idxA (esz := 1) rfl rfl (by omega) ?_ | refine k_ld rfl rx ?_ | refine k_ld rfl rn ?_ | refine k_ld rfl rm ?_ | refine k_ld rfl rz ?_ | refine k_ld rfl rm2 ?_ | refine k_ld rfl rz4 ?_ | (refine k_quo rfl rfl (by omega) ?_) | (refine k_rem rfl rfl (by omega) ?_) | refine k_fldA rfl ?_ | refine k_ldb rfl b1 rfl ?_ | refine k_ldb rfl b2 rfl ?_ | refine k_ldb rfl b12 rfl ?_ | refine k_st rfl rfl w2 ?_ | refine k_skip rfl ?_ | refine k_skipU rfl ?_ | refine k_want rfl ?_ | refine k_mv rfl ?_ | refine k_pickT rfl rfl ?_ | refine k_pickF rfl rfl ?_ | refine k_notT rfl ?_ | refine k_notF rfl ?_ | refine k_add rfl rfl (by omega) ?_ | refine k_sub rfl rfl (by omega) ?_ | refine k_mul rfl rfl (by omega) ?_ | refine k_neg rfl (by omega) ?_ | refine k_quo rfl rfl (by omega) ?_ | refine k_rem rfl rfl (by omega) ?_ | refine k_conv rfl (by omega) ?_ | refine k_max rfl rfl ?_ | refine k_min rfl rfl ?_ | refine k_lssT rfl rfl (by omega) ?_ | refine k_lssF rfl rfl (by omega) ?_ | refine k_lss rfl rfl (fun hc => ?_) (fun hc => ?_) | refine k_leqT rfl rfl (by omega) ?_ | refine k_leqF rfl rfl (by omega) ?_ | refine k_leq rfl rfl (fun hc => ?_) (fun hc => ?_) | refine k_gtrT rfl rfl (by omega) ?_ | refine k_gtrF rfl rfl (by omega) ?_ | refine k_gtr rfl rfl (fun hc => ?_) (fun hc => ?_) | refine k_geqT rfl rfl (by omega) ?_ | refine k_geqF rfl rfl (by omega) ?_ | refine k_geq rfl rfl (fun hc => ?_) (fun hc => ?_) | refine k_eqlT rfl rfl (by omega) ?_ | refine k_eqlF rfl rfl (by omega) ?_ | refine k_eql rfl rfl (fun hc => ?_) (fun hc => ?_) | refine k_neqT rfl rfl (by omega) ?_ | refine k_neqF rfl rfl (by omega) ?_ | refine k_neq rfl rfl (fun hc => ?_) (fun hc => ?_) | refine k_len rfl rfl ?_ | refine k_ok rfl rfl ?_))
            exact fin2
      · rw [if_neg hzn] at eT
        rw [eT, hzv] at fin
        have fin2 := fin e ow
        rw [← i3] at rz
        cases bb with
        | false =>
          simp only [Bool.false_and] at fin2
          repeat' (first | refine w_seq ?_ | refine w_seqN ?_ | refine w_seqX ?_ | refine w_seqR ?_ | refine w_blk ?_ | refine w_blkN ?_ | refine w_blkX ?_ | refine w_blkR ?_ | refine w_skip ?_ | refine w_ret ?_ | refine w_exit ?_ | refine w_ops ?_ | refine w_opsD ?_ | refine d_one ?_ | refine d_nil ?_ | ((refine i_cond ?_); first | refine w_condT rfl ?_ | refine w_condF rfl ?_) | ((refine i_nil ?_); first | refine d_same ?_ | refine d_ord ?_ | refine d_ext ⟨_, rfl⟩ ?_ | refine d_ext (extA _ _ _) ?_ | refine d_ext (by assumption) ?_ | refine w_end0 ?_ | refine w_end1 rfl ?_ | refine w_end2 rfl rfl ?_ | refine w_end3 rfl rfl rfl ?_ | refine w_end4 rfl rfl rfl rfl ?_ | refine w_end5 rfl rfl rfl rfl rfl ?_ | refine w_end6 rfl rfl rfl rfl rfl rfl ?_ | refine w_end7 rfl rfl rfl rfl rfl rfl rfl ?_ | refine w_end8 rfl rfl rfl rfl rfl rfl rfl rfl ?_ | refine w_end9 rfl rfl rfl rfl rfl rfl rfl rfl rfl ?_ | refine w_end10 rfl rfl rfl rfl rfl rfl rfl rfl rfl rfl ?_ | refine w_end11 rfl rfl rfl rfl rfl rfl rfl rfl rfl rfl rfl ?_ | refine w_end12 rfl rfl rfl rfl rfl rfl rfl rfl rfl rfl rfl rfl ?_ | refine w_end13 rfl rfl rfl rfl rfl rfl rfl rfl rfl rfl rfl rfl rfl ?_ | refine w_end14 rfl rfl rfl rfl rfl rfl rfl rfl rfl rfl rfl rfl rfl rfl ?_ | refine w_end15 rfl rfl rfl rfl rfl rfl rfl rfl rfl rfl rfl rfl rfl rfl rfl ?_ | refine w_end16 rfl rfl rfl rfl rfl rfl rfl rfl rfl rfl rfl rfl rfl rfl rfl rfl ?_) | ((refine i_cons ?_); first | refine k_idxA (esz := 1) rfl rfl (by omega) ?_ | refine k_ld rfl rx ?_ | refine k_ld rfl rn ?_ | refine k_ld rfl rm ?_ | refine k_ld rfl rz ?_ | (refine k_quo rfl rfl (by omega) ?_) | (refine k_rem rfl rfl (by omega) ?_) | refine k_fldA rfl ?_ | refine k_ldb rfl b1 rfl ?_ | refine k_ldb rfl b2 rfl ?_ | refine k_skip rfl ?_ | refine k_skipU rfl ?_ | refine k_want rfl ?_ | refine k_mv rfl ?_ | refine k_pickT rfl rfl ?_ | refine k_pickF rfl rfl ?_ | refine k_notT rfl ?_ | refine k_notF rfl ?_ | refine k_add rfl rfl (by omega) ?_ | refine k_sub rfl rfl (by omega) ?_ | refine k_mul rfl rfl (by omega) ?_ | refine k_neg rfl (by omega) ?_ | refine k_quo rfl rfl (by omega) ?_ | refine k_rem rfl rfl (by omega) ?_ | refine k_conv rfl (by omega) ?_ | refine k_max rfl rfl ?_ | refine k_min rfl rfl ?_ | refine k_lssT rfl rfl (by omega) ?_ | refine k_lssF rfl rfl (by omega) ?_ | refine k_lss rfl rfl (fun hc => ?_) (fun hc => ?_) | refine k_leqT rfl rfl (by omega) ?_ | refine k_leqF rfl rfl (by omega) ?_ | refine k_leq rfl rfl (fun hc => ?_) (fun hc => ?_) | refine k_gtrT rfl rfl (by omega) ?_ | refine k_gtrF rfl rfl (by omega) ?_ | refine k_gtr rfl rfl (fun hc => ?_) (fun hc => ?_) | refine k_geqT rfl rfl (by omega) ?_ | refine k_geqF rfl rfl (by omega) ?_ | refine k_geq rfl rfl (fun hc => ?_) (fun hc => ?_) | refine k_eqlT rfl rfl (by omega) ?_ | refine k_eqlF rfl rfl (by omega) ?_ | refine k_eql rfl rfl (fun hc => ?_) (fun hc => ?_) | refine k_neqT rfl rfl (by omega) ?_ | refine k_neqF rfl rfl (by omega) ?_ | refine k_neq rfl rfl (fun hc => ?_) (fun hc => ?_) | refine k_len rfl rfl ?_ | refine k_ok rfl rfl ?_))
          exact fin2
        | true =>
          simp only [Bool.true_and] at fin2
          by_cases he : (y : Int) = 4 * z + (g : Int) % 4
          · rw [decide_eq_true he] at fin2
            repeat' (first | refine w_seq ?_ | refine w_seqN ?_ | refine w_seqX ?_ | refine w_seqR ?_ | refine w_blk ?_ | refine w_blkN ?_ | refine w_blkX ?_ | refine w_blkR ?_ | refine w_skip ?_ | refine w_ret ?_ | refine w_exit ?_ | refine w_ops ?_ | refine w_opsD ?_ | refine d_one ?_ | refine d_nil ?_ | ((refine i_cond ?_); first | refine w_condT rfl ?_ | refine w_condF rfl ?_) | ((refine i_nil ?_); first | refine d_same ?_ | refine d_ord ?_ | refine d_ext ⟨_, rfl⟩ ?_ | refine d_ext (extA _ _ _) ?_ | refine d_ext (by assumption) ?_ | refine w_end0 ?_ | refine w_end1 rfl ?_ | refine w_end2 rfl rfl ?_ | refine w_end3 rfl rfl rfl ?_ | refine w_end4 rfl rfl rfl rfl ?_ | refine w_end5 rfl rfl rfl rfl rfl ?_ | refine w_end6 rfl rfl rfl rfl rfl rfl ?_ | refine w_end7 rfl rfl rfl rfl rfl rfl rfl ?_ | refine w_end8 rfl rfl rfl rfl rfl rfl rfl rfl ?_ | refine w_end9 rfl rfl rfl rfl rfl rfl rfl rfl rfl ?_ | refine w_end10 rfl rfl rfl rfl rfl rfl rfl rfl rfl rfl ?_ | refine w_end11 rfl rfl rfl rfl rfl rfl rfl rfl rfl rfl rfl ?_ | refine w_end12 rfl rfl rfl rfl rfl rfl rfl rfl rfl rfl rfl rfl ?_ | refine w_end13 rfl rfl rfl rfl rfl rfl rfl rfl rfl rfl rfl rfl rfl ?_ | refine w_end14 rfl rfl rfl rfl rfl rfl rfl rfl rfl rfl rfl rfl rfl rfl ?_ | refine w_end15 rfl rfl rfl rfl rfl rfl rfl rfl rfl rfl rfl rfl rfl rfl rfl ?_ | refine w_end16 rfl rfl rfl rfl rfl rfl rfl rfl rfl rfl rfl rfl rfl rfl rfl rfl ?_) | ((refine i_cons ?_); first | refine k_idxA (esz := 1) rfl rfl (by omega) ?_ | refine k_ld rfl rx ?_ | refine k_ld rfl rn ?_ | refine k_ld rfl rm ?_ | refine k_ld rfl rz ?_ | (refine k_quo rfl rfl (by omega) ?_) | (refine k_rem rfl rfl (by omega) ?_) | refine k_fldA rfl ?_ | refine k_ldb rfl b1 rfl ?_ | refine k_ldb rfl b2 rfl ?_ | refine k_skip rfl ?_ | refine k_skipU rfl ?_ | refine k_want rfl ?_ | refine k_mv rfl ?_ | refine k_pickT rfl rfl ?_ | refine k_pickF rfl rfl ?_ | refine k_notT rfl ?_ | refine k_notF rfl ?_ | refine k_add rfl rfl (by omega) ?_ | refine k_sub rfl rfl (by omega) ?_ | refine k_mul rfl rfl (by omega) ?_ | refine k_neg rfl (by omega) ?_ | refine k_quo rfl rfl (by omega) ?_ | refine k_rem rfl rfl (by omega) ?_ | refine k_conv rfl (by omega) ?_ | refine k_max rfl rfl ?_ | refine k_min rfl rfl ?_ | refine k_lssT rfl rfl (by omega) ?_ | refine k_lssF rfl rfl (by omega) ?_ | refine k_lss rfl rfl (fun hc => ?_) (fun hc => ?_) | refine k_leqT rfl rfl (by omega) ?_ | refine k_leqF rfl rfl (by omega) ?_ | refine k_leq rfl rfl (fun hc => ?_) (fun hc => ?_) | refine k_gtrT rfl rfl (by omega) ?_ | refine k_gtrF rfl rfl (by omega) ?_ | refine k_gtr rfl rfl (fun hc => ?_) (fun hc => ?_) | refine k_geqT rfl rfl (by omega) ?_ | refine k_geqF rfl rfl (by omega) ?_ | refine k_geq rfl rfl (fun hc => ?_) (fun hc => ?_) | refine k_eqlT rfl rfl (by omega) ?_ | refine k_eqlF rfl rfl (by omega) ?_ | refine k_eql rfl rfl (fun hc => ?_) (fun hc => ?_) | refine k_neqT rfl rfl (by omega) ?_ | refine k_neqF rfl rfl (by omega) ?_ | refine k_neq rfl rfl (fun hc => ?_) (fun hc => ?_) | refine k_len rfl rfl ?_ | refine k_ok rfl rfl ?_))
            exact fin2
          · rw [decide_eq_false he] at fin2
            repeat' (first | refine w_seq ?_ | refine w_seqN ?_ | refine w_seqX ?_ | refine w_seqR ?_ | refine w_blk ?_ | refine w_blkN ?_ | refine w_blkX ?_ | refine w_blkR ?_ | refine w_skip ?_ | refine w_ret ?_ | refine w_exit ?_ | refine w_ops ?_ | refine w_opsD ?_ | refine d_one ?_ | refine d_nil ?_ | ((refine i_cond ?_); first | refine w_condT rfl ?_ | refine w_condF rfl ?_) | ((refine i_nil ?_); first | refine d_same ?_ | refine d_ord ?_ | refine d_ext ⟨_, rfl⟩ ?_ | refine d_ext (extA _ _ _) ?_ | refine d_ext (by assumption) ?_ | refine w_end0 ?_ | refine w_end1 rfl ?_ | refine w_end2 rfl rfl ?_ | refine w_end3 rfl rfl rfl ?_ | refine w_end4 rfl rfl rfl rfl ?_ | refine w_end5 rfl rfl rfl rfl rfl ?_ | refine w_end6 rfl rfl rfl rfl rfl rfl ?_ | refine w_end7 rfl rfl rfl rfl rfl rfl rfl ?_ | refine w_end8 rfl rfl rfl rfl rfl rfl rfl rfl ?_ | refine w_end9 rfl rfl rfl rfl rfl rfl rfl rfl rfl ?_ | refine w_end10 rfl rfl rfl rfl rfl rfl rfl rfl rfl rfl ?_ | refine w_end11 rfl rfl rfl rfl rfl rfl rfl rfl rfl rfl rfl ?_ | refine w_end12 rfl rfl rfl rfl rfl rfl rfl rfl rfl rfl rfl rfl ?_ | refine w_end13 rfl rfl rfl rfl rfl rfl rfl rfl rfl rfl rfl rfl rfl ?_ | refine w_end14 rfl rfl rfl rfl rfl rfl rfl rfl rfl rfl rfl rfl rfl rfl ?_ | refine w_end15 rfl rfl rfl rfl rfl rfl rfl rfl rfl rfl rfl rfl rfl rfl rfl ?_ | refine w_end16 rfl rfl rfl rfl rfl rfl rfl rfl rfl rfl rfl rfl rfl rfl rfl rfl ?_) | ((refine i_cons ?_); first | refine k_idxA (esz := 1) rfl rfl (by omega) ?_ | refine k_ld rfl rx ?_ | refine k_ld rfl rn ?_ | refine k_ld rfl rm ?_ | refine k_ld rfl rz ?_ | (refine k_quo rfl rfl (by omega) ?_) | (refine k_rem rfl rfl (by omega) ?_) | refine k_fldA rfl ?_ | refine k_ldb rfl b1 rfl ?_ | refine k_ldb rfl b2 rfl ?_ | refine k_skip rfl ?_ | refine k_skipU rfl ?_ | refine k_want rfl ?_ | refine k_mv rfl ?_ | refine k_pickT rfl rfl ?_ | refine k_pickF rfl rfl ?_ | refine k_notT rfl ?_ | refine k_notF rfl ?_ | refine k_add rfl rfl (by omega) ?_ | refine k_sub rfl rfl (by omega) ?_ | refine k_mul rfl rfl (by omega) ?_ | refine k_neg rfl (by omega) ?_ | refine k_quo rfl rfl (by omega) ?_ | refine k_rem rfl rfl (by omega) ?_ | refine k_conv rfl (by omega) ?_ | refine k_max rfl rfl ?_ | refine k_min rfl rfl ?_ | refine k_lssT rfl rfl (by omega) ?_ | refine k_lssF rfl rfl (by omega) ?_ | refine k_lss rfl rfl (fun hc => ?_) (fun hc => ?_) | refine k_leqT rfl rfl (by omega) ?_ | refine k_leqF rfl rfl (by omega) ?_ | refine k_leq rfl rfl (fun hc => ?_) (fun hc => ?_) | refine k_gtrT rfl rfl (by omega) ?_ | refine k_gtrF rfl rfl (by omega) ?_ | refine k_gtr rfl rfl (fun hc => ?_) (fun hc => ?_) | refine k_geqT rfl rfl (by omega) ?_ | refine k_geqF rfl rfl (by omega) ?_ | refine k_geq rfl rfl (fun hc => ?_) (fun hc => ?_) | refine k_eqlT rfl rfl (by omega) ?_ | refine k_eqlF rfl rfl (by omega) ?_ | refine k_eql rfl rfl (fun hc => ?_) (fun hc => ?_) | refine k_neqT rfl rfl (by omega) ?_ | refine k_neqF rfl rfl (by omega) ?_ | refine k_neq rfl rfl (fun hc => ?_) (fun hc => ?_) | refine k_len rfl rfl ?_ | refine k_ok rfl rfl ?_))
            exact fin2
  · have : j = 4 * n := by omega
    subst this
    repeat' (first | refine w_seq ?_ | refine w_seqN ?_ | refine w_seqX ?_ | refine w_seqR ?_ | refine w_blk ?_ | refine w_blkN ?_ | refine w_blkX ?_ | refine w_blkR ?_ | refine w_skip ?_ | refine w_ret ?_ | refine w_exit ?_ | refine w_ops ?_ | refine w_opsD ?_ | refine d_one ?_ | refine d_nil ?_ | ((refine i_cond ?_); first | refine w_condT rfl ?_ | refine w_condF rfl ?_) | ((refine i_nil ?_); first | refine d_same ?_ | refine d_ord ?_ | refine d_ext ⟨_, rfl⟩ ?_ | refine d_ext (extA _ _ _) ?_ | refine d_ext (by assumption) ?_ | refine w_end0 ?_ | refine w_end1 rfl ?_ | refine w_end2 rfl rfl ?_ | refine w_end3 rfl rfl rfl ?_ | refine w_end4 rfl rfl rfl rfl ?_ | refine w_end5 rfl rfl rfl rfl rfl ?_ | refine w_end6 rfl rfl rfl rfl rfl rfl ?_ | refine w_end7 rfl rfl rfl rfl rfl rfl rfl ?_ | refine w_end8 rfl rfl rfl rfl rfl rfl rfl rfl ?_ | refine w_end9 rfl rfl rfl rfl rfl rfl rfl rfl rfl ?_ | refine w_end10 rfl rfl rfl rfl rfl rfl rfl rfl rfl rfl ?_ | refine w_end11 rfl rfl rfl rfl rfl rfl rfl rfl rfl rfl rfl ?_ | refine w_end12 rfl rfl rfl rfl rfl rfl rfl rfl rfl rfl rfl rfl ?_ | refine w_end13 rfl rfl rfl rfl rfl rfl rfl rfl rfl rfl rfl rfl rfl ?_ | refine w_end14 rfl rfl rfl rfl rfl rfl rfl rfl rfl rfl rfl rfl rfl rfl ?_ | refine w_end15 rfl rfl rfl rfl rfl rfl rfl rfl rfl rfl rfl rfl rfl rfl rfl ?_ | refine w_end16 rfl rfl rfl rfl rfl rfl rfl rfl rfl rfl rfl rfl rfl rfl rfl rfl ?_) | ((refine i_cons ?_); first | refine k_skip rfl ?_ | refine k_skipU rfl ?_ | refine k_want rfl ?_ | refine k_mv rfl ?_ | refine k_pickT rfl rfl ?_ | refine k_pickF rfl rfl ?_ | refine k_notT rfl ?_ | refine k_notF rfl ?_ | refine k_add rfl rfl (by omega) ?_ | refine k_sub rfl rfl (by omega) ?_ | refine k_mul rfl rfl (by omega) ?_ | refine k_neg rfl (by omega) ?_ | refine k_quo rfl rfl (by omega) ?_ | refine k_rem rfl rfl (by omega) ?_ | refine k_conv rfl (by omega) ?_ | refine k_max rfl rfl ?_ | refine k_min rfl rfl ?_ | refine k_lssT rfl rfl (by omega) ?_ | refine k_lssF rfl rfl (by omega) ?_ | refine k_lss rfl rfl (fun hc => ?_) (fun hc => ?_) | refine k_leqT rfl rfl (by omega) ?_ | refine k_leqF rfl rfl (by omega) ?_ | refine k_leq rfl rfl (fun hc => ?_) (fun hc => ?_) | refine k_gtrT rfl rfl (by omega) ?_ | refine k_gtrF rfl rfl (by omega) ?_ | refine k_gtr rfl rfl (fun hc => ?_) (fun hc => ?_) | refine k_geqT rfl rfl (by omega) ?_ | refine k_geqF rfl rfl (by omega) ?_ | refine k_geq rfl rfl (fun hc => ?_) (fun hc => ?_) | refine k_eqlT rfl rfl (by omega) ?_ | refine k_eqlF rfl rfl (by omega) ?_ | refine k_eql rfl rfl (fun hc => ?_) (fun hc => ?_) | refine k_neqT rfl rfl (by omega) ?_ | refine k_neqF rfl rfl (by omega) ?_ | refine k_neq rfl rfl (fun hc => ?_) (fun hc => ?_) | refine k_len rfl rfl ?_ | refine k_ok rfl rfl ?_))
    exact w_roundX ⟨rfl, e, ow, _, _, rfl⟩
end Go.Proofs.Ytooafhbjbpaacaa


/- isomorphic: contract. -/
namespace Go.Proofs.Ytooafhbjbpaacaa
open Go.Ab
set_option linter.unusedVariables false
set_option linter.unusedSimpArgs false
set_option maxRecDepth 20000
set_option maxHeartbeats 4000000
attribute [local irreducible] wOps wA wSeq wBlk wRound wRoundI wOpsD wOpsS
variable {HK : FuncId → Option Hook}

/-! ### All passes -/
def I23q (hb : Heap) (p q : Nat) (u : SV) (ms ms' T : List Int) (b : Bool) (n i : Nat) (E : Env) (h : Heap) : Prop := ∃ k : Nat, k ≤ n + 1 ∧ Ext hb h ∧ Own hb h u (ints (pss ms ms' T b k).1) ∧
  E = [(2, some (.sc (.ptr p 0))), (3, some (.sc (.ptr q 0))), (5, some (.sc (.int .i64 (n : Nat)))), (6, some (.sc (.int .i64 (i : Nat)))), (7, some (.sc u)), (9, some (.sc (.bool (pss ms ms' T b k).2))), (10, some (.sc (.int .i64 (k : Nat))))]
def R23q (hb : Heap) (p q : Nat) (u : SV) (ms ms' T : List Int) (b : Bool) (n i : Nat) (ex : Ex) (E : Env) (h : Heap) : Prop := ex = .ex 4 ∧ Ext hb h ∧ Own hb h u (ints (pss ms ms' T b (n + 1)).1) ∧ ∃ a c,
  E = [(2, some (.sc (.ptr p 0))), (3, some (.sc (.ptr q 0))), (5, some (.sc (.int .i64 (n : Nat)))), (6, some (.sc (.int .i64 (i : Nat)))), (7, some (.sc u)), (9, some (.sc (.bool (pss ms ms' T b (n + 1)).2))), (10, a), (52, c)]
theorem round23q (hb : Heap) (p q : Nat) (s m s2 m2 u : SV) (xs ms xs' ms' T : List Int) (b : Bool) (n i : Nat) (rd : Rd hb p q s m s2 m2 xs ms xs' ms' n) (hT0 : Rng n T) (E : Env) (h : Heap) (hI : I23q hb p q u ms ms' T b n i E h) :
    wA FT HK b23L2 (E.keep [2, 3, 5, 6, 7, 9, 10]) h (wRound (I23q hb p q u ms ms' T b n i) (cntD (n + 1) 10) (cntD (n + 1) 10 E h) (R23q hb p q u ms ms' T b n i)) := by
  obtain ⟨k, hk, e, ow, rfl⟩ := hI
  have hn := rd.n64
  by_cases hlt : k ≤ n
  · have hT := pss_rng (b := b) rd.mm rd.mm2 rd.lm rd.lm2 hT0 k
    have en : pss ms ms' T b (k + 1) = ps ms ms' (pss ms ms' T b k).1 (pss ms ms' T b k).2 (4 * n) := by
      rw [← rd.lm]; rfl
    have fin : ∀ {h' : Heap}, Ext hb h' → Own hb h' u (ints (ps ms ms' (pss ms ms' T b k).1 (pss ms ms' T b k).2 (4 * n)).1) → wRound (I23q hb p q u ms ms' T b n i) (cntD (n + 1) 10) (cntD (n + 1) 10 [(2, some (AV.sc (.ptr p 0))), (3, some (.sc (.ptr q 0))), (5, some (.sc (.int .i64 (n : Nat)))), (6, some (.sc (.int .i64 (i : Nat)))), (7, some (.sc u)), (9, some (.sc (.bool (pss ms ms' T b k).2))), (10, some (.sc (.int .i64 (k : Nat))))] h) (R23q hb p q u ms ms' T b n i) .nm [(2, some (.sc (.ptr p 0))), (3, some (.sc (.ptr q 0))), (5, some (.sc (.int .i64 (n : Nat)))), (6, some (.sc (.int .i64 (i : Nat)))), (7, some (.sc u)), (9, some (.sc (.bool (ps ms ms' (pss ms ms' T b k).1 (pss ms ms' T b k).2 (4 * n)).2))), (10, some (.sc (.int .i64 ((k : Int) + 1))))] h' := fun e' o' =>
      w_roundN ⟨k + 1, by omega, e', by rw [en]; exact o', by rw [en]; rfl⟩ (by simp [cntD, Env.get]; omega)
    generalize (pss ms ms' T b k).2 = bb at *
    generalize (pss ms ms' T b k).1 = T1 at *
    repeat' (first | refine w_seq ?_ | refine w_seqN ?_ | refine w_blk ?_ | refine w_skip ?_ | refine w_ops ?_ | ((refine i_cond ?_); refine w_condT rfl ?_) | ((refine i_nil ?_); refine w_end8 rfl rfl rfl rfl rfl rfl rfl rfl ?_) | ((refine i_cons ?_); first | refine k_mv rfl ?_ | refine k_leqT rfl rfl (by omega) ?_))
    refine w_loop (I23p hb p q u ms ms' T1 bb n i k) (cntD (4 * n) 11) (R23p hb p q u ms ms' T1 bb n i k) ⟨0, Nat.zero_le _, e, ow, rfl⟩ (round23p hb p q s m s2 m2 u xs ms xs' ms' T1 bb n i k rd hT) ?_
    rintro ex E' h1 ⟨rfl, e1, o1, a, c, rfl⟩
    repeat' (first | refine w_seqN ?_ | refine w_blkN ?_ | refine w_blkX ?_ | refine w_ops ?_ | ((refine i_nil ?_); refine w_end7 rfl rfl rfl rfl rfl rfl rfl ?_) | ((refine i_cons ?_); first | refine k_mv rfl ?_ | refine k_add rfl rfl (by omega) ?_))
    exact fin e1 o1
  · have : k = n + 1 := by omega
    subst this
    repeat' (first | refine w_seq ?_ | refine w_seqN ?_ | refine w_seqX ?_ | refine w_exit ?_ | refine w_ops ?_ | ((refine i_cond ?_); refine w_condF rfl ?_) | ((refine i_nil ?_); refine w_end8 rfl rfl rfl rfl rfl rfl rfl rfl ?_) | ((refine i_cons ?_); first | refine k_mv rfl ?_ | refine k_leqF rfl rfl (by omega) ?_))
    exact w_roundX ⟨rfl, e, ow, _, _, rfl⟩
/-! ### The signs -/
def I23s (hq : Heap) (p q : Nat) (u : SV) (xs xs' T : List Int) (b : Bool) (n i : Nat) (E : Env) (h : Heap) : Prop := h = hq ∧ ∃ c : Nat, c ≤ n ∧
  E = [(2, some (.sc (.ptr p 0))), (3, some (.sc (.ptr q 0))), (5, some (.sc (.int .i64 (n : Nat)))), (6, some (.sc (.int .i64 (i : Nat)))), (7, some (.sc u)), (9, some (.sc (.bool (sgT xs xs' T b c)))), (13, some (.sc (.int .i64 (c : Nat))))]
def R23s (hq : Heap) (p q : Nat) (u : SV) (xs xs' T : List Int) (b : Bool) (n i : Nat) (ex : Ex) (E : Env) (h : Heap) : Prop := ex = .ex 8 ∧ h = hq ∧ ∃ a c,
  E = [(2, some (.sc (.ptr p 0))), (3, some (.sc (.ptr q 0))), (5, some (.sc (.int .i64 (n : Nat)))), (6, some (.sc (.int .i64 (i : Nat)))), (7, some (.sc u)), (9, some (.sc (.bool (sgT xs xs' T b n)))), (13, a), (124, c)]
theorem round23s (hb hq : Heap) (p q : Nat) (s m s2 m2 u : SV) (xs ms xs' ms' T : List Int) (b : Bool) (n i : Nat) (rd : Rd hq p q s m s2 m2 xs ms xs' ms' n) (hT : Rng n T) (ow : Own hb hq u (ints T)) (E : Env) (h : Heap) (hI : I23s hq p q u xs xs' T b n i E h) :
    wA FT HK b23L4 (E.keep [2, 3, 5, 6, 7, 9, 13]) h (wRound (I23s hq p q u xs xs' T b n i) (cntD n 13) (cntD n 13 E h) (R23s hq p q u xs xs' T b n i)) := by
  obtain ⟨rfl, c, hc, rfl⟩ := hI
  have hn := rd.n64
  by_cases hlt : c < n
  · obtain ⟨hTl, hTr⟩ := hT
    obtain ⟨hx1, hx2⟩ := hTr c hlt
    obtain ⟨x, hxv⟩ : ∃ x, T.getD c 0 = x := ⟨_, rfl⟩
    have hx : (ints T)[c]? = some (.int .i64 x) := by
      rw [← hxv]
      simp [ints, List.getD, show c < T.length by omega]
    rw [hxv] at hx1 hx2
    obtain ⟨id, cap, rfl, rx⟩ := Own.rd ow hx
    have hll : (ints T).length = n := by simp [ints, hTl]
    simp only [hll] at ow ⊢
    obtain ⟨v, hv⟩ : ∃ v, xs[c]? = some v := ⟨_, List.getElem?_eq_getElem (by rw [rd.lx]; exact hlt)⟩
    obtain ⟨ids, offs, caps, es, rs⟩ := IsInts.at rd.is hv
    have b1 := rd.b1
    have b2 := rd.b2
    have lx := rd.lx
    have lx2 := rd.lx2
    rw [lx] at es
    rw [es] at b1
    have vd : xs.getD c 0 = v := getD_at hv
    have en : sgT xs xs' T b (c + 1) = (sgT xs xs' T b c && decide (0 ≤ x) && decide (v = xs'.getD x.toNat 0)) := by
      simp only [sgT, hxv, vd]
    have fin : ∀ bb', bb' = sgT xs xs' T b (c + 1) → wRound (I23s h p q (.slc id 0 n cap) xs xs' T b n i) (cntD n 13) (cntD n 13 [(2, some (AV.sc (.ptr p 0))), (3, some (.sc (.ptr q 0))), (5, some (.sc (.int .i64 (n : Nat)))), (6, some (.sc (.int .i64 (i : Nat)))), (7, some (.sc (.slc id 0 n cap))), (9, some (.sc (.bool (sgT xs xs' T b c)))), (13, some (.sc (.int .i64 (c : Nat))))] h) (R23s h p q (.slc id 0 n cap) xs xs' T b n i) .nm
        [(2, some (.sc (.ptr p 0))), (3, some (.sc (.ptr q 0))), (5, some (.sc (.int .i64 (n : Nat)))), (6, some (.sc (.int .i64 (i : Nat)))), (7, some (.sc (.slc id 0 n cap))), (9, some (.sc (.bool bb'))), (13, some (.sc (.int .i64 ((c : Int) + 1))))] h := fun bb' hbb => by
      subst hbb
      exact w_roundN ⟨rfl, c + 1, by omega, rfl⟩ (by simp [cntD, Env.get]; omega)
    rw [en] at fin
    generalize sgT xs xs' T b c = bb at *
    cases bb with
    | false =>
      repeat' (first | refine w_seq ?_ | refine w_seqN ?_ | refine w_blk ?_ | refine w_blkN ?_ | refine w_skip ?_ | refine w_ops ?_ | refine w_opsD ?_ | refine d_one ?_ | refine d_nil ?_ | ((refine i_cond ?_); refine w_condT rfl ?_) | ((refine i_nil ?_); first | refine d_same ?_ | refine w_end7 rfl rfl rfl rfl rfl rfl rfl ?_ | refine w_end8 rfl rfl rfl rfl rfl rfl rfl rfl ?_) | ((refine i_cons ?_); first | refine k_skip rfl ?_ | refine k_mv rfl ?_ | refine k_pickF rfl rfl ?_ | refine k_add rfl rfl (by omega) ?_ | refine k_lssT rfl rfl (by omega) ?_))
      exact fin _ (by simp)
    | true =>
      by_cases hneg : x < 0
      · repeat' (first | refine w_seq ?_ | refine w_seqN ?_ | refine w_blk ?_ | refine w_blkN ?_ | refine w_skip ?_ | refine w_ops ?_ | refine w_opsD ?_ | refine d_one ?_ | refine d_nil ?_ | ((refine i_cond ?_); refine w_condT rfl ?_) | ((refine i_nil ?_); first | refine d_same ?_ | refine w_end7 rfl rfl rfl rfl rfl rfl rfl ?_ | refine w_end8 rfl rfl rfl rfl rfl rfl rfl rfl ?_) | ((refine i_cons ?_); first | refine k_idxA (esz := 1) rfl rfl (by omega) ?_ | refine k_ld rfl rx ?_ | refine k_skip rfl ?_ | refine k_want rfl ?_ | refine k_mv rfl ?_ | refine k_pickT rfl rfl ?_ | refine k_pickF rfl rfl ?_ | refine k_add rfl rfl (by omega) ?_ | refine k_lssT rfl rfl (by omega) ?_ | refine k_geqF rfl rfl (by omega) ?_))
        exact fin _ (by simp; omega)
      · obtain ⟨X, rfl⟩ : ∃ X : Nat, x = X := ⟨x.toNat, by omega⟩
        obtain ⟨w, hw⟩ : ∃ w, xs'[X]? = some w := ⟨_, List.getElem?_eq_getElem (by omega)⟩
        obtain ⟨idt, offt, capt, et, rt⟩ := IsInts.at rd.is2 hw
        rw [lx2] at et
        rw [et] at b2
        have wd : xs'.getD X 0 = w := getD_at hw
        rw [Int.toNat_natCast, wd] at fin
        by_cases hvw : v = w
        · repeat' (first | refine w_seq ?_ | refine w_seqN ?_ | refine w_blk ?_ | refine w_blkN ?_ | refine w_skip ?_ | refine w_ops ?_ | refine w_opsD ?_ | refine d_one ?_ | refine d_nil ?_ | ((refine i_cond ?_); refine w_condT rfl ?_) | ((refine i_nil ?_); first | refine d_same ?_ | refine w_end7 rfl rfl rfl rfl rfl rfl rfl ?_ | refine w_end8 rfl rfl rfl rfl rfl rfl rfl rfl ?_) | ((refine i_cons ?_); first | refine k_idxA (esz := 1) rfl rfl (by omega) ?_ | refine k_ld rfl rx ?_ | refine k_fldA rfl ?_ | refine k_ldb rfl b1 rfl ?_ | refine k_ldb rfl b2 rfl ?_ | refine k_ld rfl rs ?_ | refine k_ld rfl rt ?_ | refine k_want rfl ?_ | refine k_mv rfl ?_ | refine k_pickT rfl rfl ?_ | refine k_add rfl rfl (by omega) ?_ | refine k_lssT rfl rfl (by omega) ?_ | refine k_geqT rfl rfl (by omega) ?_ | refine k_eqlT rfl rfl (by omega) ?_))
          exact fin _ (by simp [hvw])
        · repeat' (first | refine w_seq ?_ | refine w_seqN ?_ | refine w_blk ?_ | refine w_blkN ?_ | refine w_skip ?_ | refine w_ops ?_ | refine w_opsD ?_ | refine d_one ?_ | refine d_nil ?_ | ((refine i_cond ?_); refine w_condT rfl ?_) | ((refine i_nil ?_); first | refine d_same ?_ | refine w_end7 rfl rfl rfl rfl rfl rfl rfl ?_ | refine w_end8 rfl rfl rfl rfl rfl rfl rfl rfl ?_) | ((refine i_cons ?_); first | refine k_idxA (esz := 1) rfl rfl (by omega) ?_ | refine k_ld rfl rx ?_ | refine k_fldA rfl ?_ | refine k_ldb rfl b1 rfl ?_ | refine k_ldb rfl b2 rfl ?_ | refine k_ld rfl rs ?_ | refine k_ld rfl rt ?_ | refine k_want rfl ?_ | refine k_mv rfl ?_ | refine k_pickT rfl rfl ?_ | refine k_add rfl rfl (by omega) ?_ | refine k_lssT rfl rfl (by omega) ?_ | refine k_geqT rfl rfl (by omega) ?_ | refine k_eqlF rfl rfl (by omega) ?_))
          exact fin _ (by simp [hvw])
  · have : c = n := by omega
    subst this
    repeat' (first | refine w_seq ?_ | refine w_seqN ?_ | refine w_seqX ?_ | refine w_exit ?_ | refine w_ops ?_ | ((refine i_cond ?_); refine w_condF rfl ?_) | ((refine i_nil ?_); refine w_end8 rfl rfl rfl rfl rfl rfl rfl rfl ?_) | ((refine i_cons ?_); first | refine k_mv rfl ?_ | refine k_lssF rfl rfl (by omega) ?_))
    exact w_roundX ⟨rfl, rfl, _, _, rfl⟩
end Go.Proofs.Ytooafhbjbpaacaa


/- isomorphic: contract, the end. -/
namespace Go.Proofs.Ytooafhbjbpaacaa
open Go.Ab
set_option linter.unusedVariables false
set_option linter.unusedSimpArgs false
set_option maxRecDepth 20000
set_option maxHeartbeats 4000000
attribute [local irreducible] wOps wA wSeq wBlk wRound wRoundI wOpsD wOpsS
variable {HK : FuncId → Option Hook}

def I23 (hb : Heap) (p q : Nat) (xs ms xs' ms' : List Int) (n : Nat) (E : Env) (h : Heap) : Prop := ∃ i : Nat, i ≤ n ∧ Ext hb h ∧ (∀ nu, Iso n xs xs' ms ms' nu → Conn n ms → i ≤ nu 0) ∧
  E = [(2, some (.sc (.ptr p 0))), (3, some (.sc (.ptr q 0))), (5, some (.sc (.int .i64 (n : Nat)))), (6, some (.sc (.int .i64 (i : Nat))))]
def R23 (hb : Heap) (p q : Nat) (xs ms xs' ms' : List Int) (n : Nat) (ex : Ex) (E : Env) (h : Heap) : Prop := Ext hb h ∧
  ((ex = .ex 0 ∧ (∀ nu, Iso n xs xs' ms ms' nu → ¬ Conn n ms) ∧ ∃ a b c d e, E = [(2, a), (3, b), (5, c), (6, d), (33, e)]) ∨ (ex = .rt ∧ E = [(4, some (.sc (.bool true)))]))
theorem round23 (hb : Heap) (p q : Nat) (s m s2 m2 : SV) (xs ms xs' ms' : List Int) (n : Nat) (h1n : 1 ≤ n) (rd : Rd hb p q s m s2 m2 xs ms xs' ms' n) (E : Env) (h : Heap) (hI : I23 hb p q xs ms xs' ms' n E h) :
    wA FT HK b23L0 (E.keep [2, 3, 5, 6]) h (wRound (I23 hb p q xs ms xs' ms' n) (cntD n 6) (cntD n 6 E h) (R23 hb p q xs ms xs' ms' n)) := by
  obtain ⟨i, hi, e, hno, rfl⟩ := hI
  have hn := rd.n64
  by_cases hlt : i < n
  · have r := rd.ext e
    repeat' (first | refine w_seq ?_ | refine w_seqN ?_ | refine w_blk ?_ | refine w_skip ?_ | refine w_ops ?_ | ((refine i_cond ?_); refine w_condT rfl ?_) | ((refine i_nil ?_); first | refine w_end5 rfl rfl rfl rfl rfl ?_ | refine w_end7 rfl rfl rfl rfl rfl rfl rfl ?_) | ((refine i_cons ?_); first | (refine k_mkO (h0 := h) (Ext.refl _) rfl rfl (by simp only [bigN]; omega) ?_; intro u h1 o1 e1 e1' l1; have lu : lenS false u = some (n : Int) := (by have := Own.len o1; simpa using this)) | refine k_len rfl lu ?_ | refine k_mv rfl ?_ | refine k_lssT rfl rfl (by omega) ?_))
    have ez : ((n : Int)).toNat = n := by omega
    have o1' : Own h h1 u (ints (fillM n 0)) := by
      have : ints (fillM n 0) = List.replicate n (SV.int .i64 0) := by
        unfold fillM ints
        rw [List.map_map]
        refine List.ext_getElem (by simp) fun c a b => by simp
      rw [this, ← ez]; exact o1
    refine w_loop (I23f h p q u n i) (cntD n 40) (R23f h p q u n i) ⟨0, Nat.zero_le _, e1, o1', rfl⟩ (round23f h p q u n i hn) ?_
    rintro ex E' h2 ⟨rfl, e2, o2, a, b, c, rfl⟩
    obtain ⟨id, cap, h3, eu, w3, o3, e3, f3, l3⟩ := Own.wr e2 o2 (i := 0) (by simp [ints, fill_len]; omega) (.int .i64 (i : Int))
    have o3' : Own h h3 u (ints (iniT n i)) := by
      unfold iniT; simpa [ints, List.map_set] using o3
    simp only [show (ints (fillM n n)).length = n by simp [ints, fill_len]] at eu
    subst eu
    repeat' (first | refine w_seq ?_ | refine w_seqN ?_ | refine w_blk ?_ | refine w_blkX ?_ | refine w_ops ?_ | ((refine i_nil ?_); first | refine w_end5 rfl rfl rfl rfl rfl ?_ | refine w_end6 rfl rfl rfl rfl rfl rfl ?_ | refine w_end7 rfl rfl rfl rfl rfl rfl rfl ?_) | ((refine i_cons ?_); first | refine k_idxA (esz := 1) rfl rfl (by omega) ?_ | refine k_st rfl rfl w3 ?_ | refine k_mv rfl ?_))
    refine w_loop (I23q h p q (.slc id 0 n cap) ms ms' (iniT n i) true n i) (cntD (n + 1) 10) (R23q h p q (.slc id 0 n cap) ms ms' (iniT n i) true n i) ⟨0, Nat.zero_le _, e3, o3', rfl⟩ (round23q h p q s m s2 m2 (.slc id 0 n cap) xs ms xs' ms' (iniT n i) true n i r (ini_rng hlt)) ?_
    rintro ex E' h4 ⟨rfl, e4, o4, a', c', rfl⟩
    have hT := pss_rng (b := true) rd.mm rd.mm2 rd.lm rd.lm2 (ini_rng hlt) (n + 1)
    have found : ∀ nu, Iso n xs xs' ms ms' nu → Conn n ms → i = nu 0 → sgT xs xs' (pss ms ms' (iniT n i) true (n + 1)).1 (pss ms ms' (iniT n i) true (n + 1)).2 n = true := fun nu hI hC hi0 => by
      rw [hi0]
      exact iso_found hI rd.mm rd.mm2 rd.lm rd.lm2 (by omega) hC
    generalize (pss ms ms' (iniT n i) true (n + 1)).2 = bb at *
    generalize (pss ms ms' (iniT n i) true (n + 1)).1 = T at *
    repeat' (first | refine w_seq ?_ | refine w_seqN ?_ | refine w_blk ?_ | refine w_blkX ?_ | refine w_ops ?_ | ((refine i_nil ?_); refine w_end7 rfl rfl rfl rfl rfl rfl rfl ?_) | ((refine i_cons ?_); refine k_mv rfl ?_))
    refine w_loop (I23s h4 p q (.slc id 0 n cap) xs xs' T bb n i) (cntD n 13) (R23s h4 p q (.slc id 0 n cap) xs xs' T bb n i) ⟨rfl, 0, Nat.zero_le _, rfl⟩ (round23s h h4 p q s m s2 m2 (.slc id 0 n cap) xs ms xs' ms' T bb n i (r.ext e4) hT o4) ?_
    rintro ex E' h5 ⟨rfl, rfl, a2, c2, rfl⟩
    have e5 : Ext hb h5 := e.trans e4
    generalize sgT xs xs' T bb n = fb at *
    cases fb with
    | true =>
      repeat' (first | refine w_seq ?_ | refine w_seqN ?_ | refine w_seqR ?_ | refine w_blkX ?_ | refine w_blkR ?_ | refine w_ret ?_ | refine w_ops ?_ | ((refine i_cond ?_); refine w_condT rfl ?_) | ((refine i_nil ?_); first | refine w_end1 rfl ?_ | refine w_end5 rfl rfl rfl rfl rfl ?_) | ((refine i_cons ?_); refine k_mv rfl ?_))
      exact w_roundR ⟨e5, .inr ⟨rfl, rfl⟩⟩
    | false =>
      have hno2 : ∀ nu, Iso n xs xs' ms ms' nu → Conn n ms → i + 1 ≤ nu 0 := fun nu hI hC => by
        have h1 := hno nu hI hC
        have h2 : i ≠ nu 0 := fun h => by have := found nu hI hC h; cases this
        omega
      repeat' (first | refine w_seq ?_ | refine w_seqN ?_ | refine w_blkN ?_ | refine w_blkX ?_ | refine w_skip ?_ | refine w_ops ?_ | ((refine i_cond ?_); refine w_condF rfl ?_) | ((refine i_nil ?_); first | refine w_end4 rfl rfl rfl rfl ?_ | refine w_end5 rfl rfl rfl rfl rfl ?_) | ((refine i_cons ?_); first | refine k_mv rfl ?_ | refine k_add rfl rfl (by omega) ?_))

      exact w_roundN ⟨i + 1, by omega, e5, hno2, rfl⟩ (by simp [cntD, Env.get]; omega)
  · have : i = n := by omega
    subst this
    have hno2 : ∀ nu, Iso i xs xs' ms ms' nu → ¬ Conn i ms := fun nu hI hC => by
      have := hno nu hI hC
      have := hI.lt 0 (by omega)
      omega
    repeat' (first | refine w_seq ?_ | refine w_seqN ?_ | refine w_seqX ?_ | refine w_exit ?_ | refine w_ops ?_ | ((refine i_cond ?_); refine w_condF rfl ?_) | ((refine i_nil ?_); refine w_end5 rfl rfl rfl rfl rfl ?_) | ((refine i_cons ?_); first | refine k_mv rfl ?_ | refine k_lssF rfl rfl (by omega) ?_))
    exact w_roundX ⟨e, .inl ⟨rfl, hno2, _, _, _, _, _, rfl⟩⟩
theorem call23 (hk23 : HK 23 = none) (h0 : Heap) (s m s2 m2 : SV) (xs ms xs' ms' : List Int) (n : Nat) (h1n : 1 ≤ n) (hn : n ≤ 64) (is : IsInts h0 s xs) (im : IsInts h0 m ms) (is2 : IsInts h0 s2 xs') (im2 : IsInts h0 m2 ms')
    (lx : xs.length = n) (lx2 : xs'.length = n) (lm : ms.length = 4 * n) (lm2 : ms'.length = 4 * n) (mm : Mates ms) (mm2 : Mates ms') :
    ∃ v h', Cal FT HK 23 [.agg [s, m, .int .i64 0], .agg [s2, m2, .int .i64 0]] h0 v h' ∧ Ext h0 h' ∧ ∃ b, v = .sc (.bool b) ∧ (∀ nu, Iso n xs xs' ms ms' nu → Conn n ms → b = true) := by
  refine Cal.of (F := a23) hk23 rfl rfl ?_
  have ls := IsSl.len is
  have ls2 := IsSl.len is2
  rw [lx] at ls
  rw [lx2] at ls2
  repeat' (first | refine w_seq ?_ | refine w_seqN ?_ | refine w_blk ?_ | refine w_skip ?_ | refine w_ops ?_ | ((refine i_cond ?_); refine w_condF rfl ?_) | ((refine i_nil ?_); first | refine w_end2 rfl rfl ?_ | refine w_end3 rfl rfl rfl ?_ | refine w_end4 rfl rfl rfl rfl ?_) | ((refine i_cons ?_); first | (have z := e1; refine k_box rfl rfl ?_; intro h2 e2 l2 b2; have b1x := b1.ext e2) | (refine k_box rfl rfl ?_; intro h1 e1 l1 b1) | refine k_ldb rfl b1x rfl ?_ | refine k_ldb rfl b2 rfl ?_ | refine k_fldA rfl ?_ | refine k_len rfl ls ?_ | refine k_len rfl ls2 ?_ | refine k_want rfl ?_ | refine k_mv rfl ?_ | refine k_pickF rfl rfl ?_ | refine k_eqlF rfl rfl (by omega) ?_ | refine k_neqF rfl rfl (by omega) ?_))
  have x2 := e1.trans e2
  have rd : Rd h2 h0.length h1.length s m s2 m2 xs ms xs' ms' n := ⟨hn, b1x, b2, IsSl.ext is x2, IsSl.ext im x2, IsSl.ext is2 x2, IsSl.ext im2 x2, lx, lx2, lm, lm2, mm, mm2⟩
  refine w_loop (I23 h2 h0.length h1.length xs ms xs' ms' n) (cntD n 6) (R23 h2 h0.length h1.length xs ms xs' ms' n) ⟨0, Nat.zero_le _, Ext.refl _, fun _ _ _ => Nat.zero_le _, rfl⟩ (round23 h2 h0.length h1.length s m s2 m2 xs ms xs' ms' n h1n rd) ?_
  rintro ex E' h3 ⟨e3, ⟨rfl, hno, a, b, c, d, e, rfl⟩ | ⟨rfl, rfl⟩⟩
  · repeat' (first | refine w_seq ?_ | refine w_seqN ?_ | refine w_blkX ?_ | refine w_ret ?_ | refine w_ops ?_ | ((refine i_nil ?_); refine w_end1 rfl ?_) | ((refine i_cons ?_); refine k_mv rfl ?_))
    exact ⟨.inr rfl, x2.trans e3, false, rfl, fun nu hI hC => absurd hC (hno nu hI)⟩
  · repeat' (first | refine w_seqR ?_ | refine w_blkR ?_)
    exact ⟨.inr rfl, x2.trans e3, true, rfl, fun _ _ _ => rfl⟩
end Go.Proofs.Ytooafhbjbpaacaa

