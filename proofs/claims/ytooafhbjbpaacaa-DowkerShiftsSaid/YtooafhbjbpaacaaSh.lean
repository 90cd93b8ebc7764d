/- Shift: contract. -/
import Derived.Test.YtooafhbjbpaacaaDP9
import Derived.Test.YtooafhbjbpaacaaD2
namespace Go.Proofs.Ytooafhbjbpaacaa
open Go.Ab
set_option linter.unusedVariables false
set_option linter.unusedSimpArgs false
set_option maxRecDepth 20000
set_option maxHeartbeats 4000000
attribute [local irreducible] wOps wA wSeq wBlk wRound wRoundI wOpsD wOpsS
variable {HK : FuncId → Option Hook}

section
variable {FT : FuncId → Option AFun} {E : Env} {h : Heap} {K : Env → Heap → Prop} {d : Option Nat} {r : List AOp} {x y : AO} {m n : Int}
theorem k_remc {c : Int} (hx : evS E x = some (.int .i64 m)) (hy : evS E y = some (.int .i64 n)) (hr : 0 ≤ m ∧ 0 < n) (hc : m % n = c) (hw : wOps FT HK r (bindE d (some (.sc (.int .i64 c))) E) h K) : wOps FT HK (⟨d, .bin .rem x y, none⟩ :: r) E h K := by
  subst hc; exact k_rem hx hy hr hw
end
abbrev bools (bs : List Bool) : List SV := bs.map .bool
/-- The partners of the passages, and which pass over. -/
def prD (vs : List Int) : Nat → List Int
  | 0 => List.replicate (2 * vs.length) 0
  | j + 1 => ((prD vs j).set (2 * j) (max (vs.getD j 0) (-(vs.getD j 0)) - 1)).set ((vs.getD j 0).natAbs - 1) (2 * (j : Int))
def flD (vs : List Int) : Nat → List Bool
  | 0 => List.replicate (2 * vs.length) false
  | j + 1 => ((flD vs j).set (2 * j) (decide (0 < vs.getD j 0))).set ((vs.getD j 0).natAbs - 1) (decide (vs.getD j 0 < 0))
theorem prD_len (vs : List Int) : ∀ j, (prD vs j).length = 2 * vs.length
  | 0 => by simp [prD]
  | j + 1 => by rw [prD, List.length_set, List.length_set, prD_len vs j]
theorem flD_len (vs : List Int) : ∀ j, (flD vs j).length = 2 * vs.length
  | 0 => by simp [flD]
  | j + 1 => by rw [flD, List.length_set, List.length_set, flD_len vs j]
variable {vs : List Int}
theorem prD_at (hg : Good vs) : ∀ {j}, j ≤ vs.length → ∀ c, c < j → (prD vs j).getD ((vs.getD c 0).natAbs - 1) 0 = 2 * (c : Int)
  | 0, _, c, h => absurd h (Nat.not_lt_zero _)
  | j + 1, hj, c, h => by
    obtain ⟨a1, a2, a3⟩ := good_v hg (i := j) (by omega)
    obtain ⟨b1, b2, b3⟩ := good_v hg (i := c) (by omega)
    have hl := prD_len vs j
    rw [prD, getD_set2 (by omega) (by omega)]
    by_cases e : c = j
    · subst e; rw [if_pos rfl]
    · rw [if_neg (fun h => e (good_inj hg (by omega) (by omega) (by omega))), if_neg (by omega)]
      exact prD_at hg (by omega) c (by omega)
theorem getD_setb {L : List Bool} {a : Nat} {x : Bool} (ha : a < L.length) (k : Nat) : (L.set a x).getD k false = if k = a then x else L.getD k false := by
  rw [List.getD_eq_getElem?_getD, List.getElem?_set]
  by_cases h : a = k
  · subst h; rw [if_pos rfl, if_pos ha, if_pos rfl]; rfl
  · rw [if_neg h, if_neg (fun e => h e.symm), ← List.getD_eq_getElem?_getD]
theorem flD_at (hg : Good vs) : ∀ {j}, j ≤ vs.length → ∀ c, c < j → (flD vs j).getD (2 * c) false = decide (0 < vs.getD c 0)
  | 0, _, c, h => absurd h (Nat.not_lt_zero _)
  | j + 1, hj, c, h => by
    obtain ⟨a1, a2, a3⟩ := good_v hg (i := j) (by omega)
    have hl := flD_len vs j
    rw [flD, getD_setb (by rw [List.length_set]; omega), getD_setb (by omega), if_neg (by omega)]
    by_cases e : c = j
    · subst e; rw [if_pos rfl]
    · rw [if_neg (by omega)]
      exact flD_at hg (by omega) c (by omega)
/-! ### The first loop -/
def I25a (hb : Heap) (o A F : SV) (vs : List Int) (E : Env) (h : Heap) : Prop := ∃ i : Nat, i ≤ vs.length ∧ Ext hb h ∧ Own hb h A (ints (prD vs i)) ∧ Own hb h F (bools (flD vs i)) ∧
  E = [(0, some (.sc o)), (3, some (.sc (.int .i64 (vs.length : Nat)))), (4, some (.sc A)), (5, some (.sc F)), (6, some (.sc (.int .i64 (i : Nat))))]
def R25a (hb : Heap) (o A F : SV) (vs : List Int) (ex : Ex) (E : Env) (h : Heap) : Prop := ex = .ex 0 ∧ Ext hb h ∧ Own hb h A (ints (prD vs vs.length)) ∧ Own hb h F (bools (flD vs vs.length)) ∧ ∃ a b c,
  E = [(0, a), (3, some (.sc (.int .i64 (vs.length : Nat)))), (4, some (.sc A)), (5, some (.sc F)), (6, b), (23, c)]
theorem round25a (hk35 : HK 35 = none) (hb : Heap) (o A F : SV) (vs : List Int) (hg : Good vs) (ho : IsInts hb o vs) (ap : Ab.Apart A F) (E : Env) (h : Heap) (hI : I25a hb o A F vs E h) :
    wA FT HK b25L0 (E.keep [0, 3, 4, 5, 6]) h (wRound (I25a hb o A F vs) (cntD vs.length 6) (cntD vs.length 6 E h) (R25a hb o A F vs)) := by
  obtain ⟨i, hi, e, oA, oF, rfl⟩ := hI
  have h64 := hg.2.1
  by_cases hlt : i < vs.length
  · obtain ⟨v, hv⟩ : ∃ v, vs[i]? = some v := ⟨_, List.getElem?_eq_getElem hlt⟩
    obtain ⟨v2, vn, ve⟩ := good_v hg hlt
    have hd : vs.getD i 0 = v := getD_at hv
    rw [hd] at v2 vn ve
    obtain ⟨id, off, cap, rfl, hr0⟩ := IsInts.at ho hv
    have hr := readN_extD e hr0
    have lp := prD_len vs i
    have lf := flD_len vs i
    have e1 : prD vs (i + 1) = ((prD vs i).set (2 * i) (max v (-v) - 1)).set (v.natAbs - 1) (2 * (i : Int)) := by rw [prD, hd]
    have e2 : flD vs (i + 1) = ((flD vs i).set (2 * i) (decide (0 < v))).set (v.natAbs - 1) (decide (v < 0)) := by rw [flD, hd]
    obtain ⟨iA, cA, h1, eA, w1, o1, x1, f1, l1⟩ := Own.wr e oA (i := 2 * i) (by simp [ints, lp]; omega) (.int .i64 (max v (-v) - 1))
    obtain ⟨iA2, cA2, h2, eA2, w2, o2, x2, f2, l2⟩ := Own.wr x1 o1 (i := v.natAbs - 1) (by simp [ints, lp]; omega) (.int .i64 (2 * (i : Int)))
    have oF2 : Own hb h2 F (bools (flD vs i)) := Own.away (Own.away oF f1 ap) f2 ap
    obtain ⟨iF, cF, h3, eF, w3, o3, x3, f3, l3⟩ := Own.wr x2 oF2 (i := 2 * i) (by simp [bools, lf]; omega) (.bool (decide (0 < v)))
    obtain ⟨iF2, cF2, h4, eF2, w4, o4, x4, f4, l4⟩ := Own.wr x3 o3 (i := v.natAbs - 1) (by simp [bools, lf]; omega) (.bool (decide (v < 0)))
    have oA4 : Own hb h4 A (ints (prD vs (i + 1))) := by
      rw [e1]
      have := Own.away (Own.away o2 f3 ap.symm) f4 ap.symm
      simpa [ints, List.map_set] using this
    have oF4 : Own hb h4 F (bools (flD vs (i + 1))) := by
      rw [e2]; simpa [bools, List.map_set] using o4
    simp only [List.length_set, List.length_map, lp, lf] at eA eA2 eF eF2
    subst eA
    subst eF
    cases eA2
    cases eF2
    have i1 : (2 * (i : Int)).toNat = 2 * i := by omega
    have i2 : (max v (-v) - 1).toNat = v.natAbs - 1 := by omega
    rw [← i1] at w1 w3
    rw [← i2] at w2 w4
    have k35 := call35 hk35 h v (by omega)
    have hr4 := readN_extD x2 hr0
    by_cases hp : 0 < v
    · rw [decide_eq_true hp] at w3
      rw [decide_eq_false (by omega)] at w4
      repeat' (first | refine w_seq ?_ | refine w_seqN ?_ | refine w_seqX ?_ | refine w_seqR ?_ | refine w_blk ?_ | refine w_blkN ?_ | refine w_blkX ?_ | refine w_blkR ?_ | refine w_skip ?_ | refine w_ret ?_ | refine w_exit ?_ | refine w_ops ?_ | refine w_opsD ?_ | refine d_one ?_ | refine d_nil ?_ | ((refine i_cond ?_); first | refine w_condT rfl ?_ | refine w_condF rfl ?_) | ((refine i_nil ?_); first | refine d_same ?_ | refine d_ord ?_ | refine d_ext ⟨_, rfl⟩ ?_ | refine d_ext (extA _ _ _) ?_ | refine d_ext (by assumption) ?_ | refine w_end0 ?_ | refine w_end1 rfl ?_ | refine w_end2 rfl rfl ?_ | refine w_end3 rfl rfl rfl ?_ | refine w_end4 rfl rfl rfl rfl ?_ | refine w_end5 rfl rfl rfl rfl rfl ?_ | refine w_end6 rfl rfl rfl rfl rfl rfl ?_ | refine w_end7 rfl rfl rfl rfl rfl rfl rfl ?_ | refine w_end8 rfl rfl rfl rfl rfl rfl rfl rfl ?_ | refine w_end9 rfl rfl rfl rfl rfl rfl rfl rfl rfl ?_ | refine w_end10 rfl rfl rfl rfl rfl rfl rfl rfl rfl rfl ?_ | refine w_end11 rfl rfl rfl rfl rfl rfl rfl rfl rfl rfl rfl ?_ | refine w_end12 rfl rfl rfl rfl rfl rfl rfl rfl rfl rfl rfl rfl ?_ | refine w_end13 rfl rfl rfl rfl rfl rfl rfl rfl rfl rfl rfl rfl rfl ?_ | refine w_end14 rfl rfl rfl rfl rfl rfl rfl rfl rfl rfl rfl rfl rfl rfl ?_ | refine w_end15 rfl rfl rfl rfl rfl rfl rfl rfl rfl rfl rfl rfl rfl rfl rfl ?_ | refine w_end16 rfl rfl rfl rfl rfl rfl rfl rfl rfl rfl rfl rfl rfl rfl rfl rfl ?_) | ((refine i_cons ?_); first | refine k_idxA (esz := 1) rfl rfl (by omega) ?_ | refine k_ld rfl hr ?_ | (refine k_call rfl k35 ?_; rintro v' _ ⟨rfl, rfl⟩) | refine k_st rfl rfl w1 ?_ | refine k_st rfl rfl w2 ?_ | refine k_ld rfl hr4 ?_ | refine k_st rfl rfl w3 ?_ | refine k_st rfl rfl w4 ?_ | refine k_skip rfl ?_ | refine k_skipU rfl ?_ | refine k_want rfl ?_ | refine k_mv rfl ?_ | refine k_pickT rfl rfl ?_ | refine k_pickF rfl rfl ?_ | refine k_notT rfl ?_ | refine k_notF rfl ?_ | refine k_add rfl rfl (by omega) ?_ | refine k_sub rfl rfl (by omega) ?_ | refine k_mul rfl rfl (by omega) ?_ | refine k_neg rfl (by omega) ?_ | refine k_quo rfl rfl (by omega) ?_ | refine k_rem rfl rfl (by omega) ?_ | refine k_conv rfl (by omega) ?_ | refine k_max rfl rfl ?_ | refine k_min rfl rfl ?_ | refine k_lssT rfl rfl (by omega) ?_ | refine k_lssF rfl rfl (by omega) ?_ | refine k_lss rfl rfl (fun hc => ?_) (fun hc => ?_) | refine k_leqT rfl rfl (by omega) ?_ | refine k_leqF rfl rfl (by omega) ?_ | refine k_leq rfl rfl (fun hc => ?_) (fun hc => ?_) | refine k_gtrT rfl rfl (by omega) ?_ | refine k_gtrF rfl rfl (by omega) ?_ | refine k_gtr rfl rfl (fun hc => ?_) (fun hc => ?_) | refine k_geqT rfl rfl (by omega) ?_ | refine k_geqF rfl rfl (by omega) ?_ | refine k_geq rfl rfl (fun hc => ?_) (fun hc => ?_) | refine k_eqlT rfl rfl (by omega) ?_ | refine k_eqlF rfl rfl (by omega) ?_ | refine k_eql rfl rfl (fun hc => ?_) (fun hc => ?_) | refine k_neqT rfl rfl (by omega) ?_ | refine k_neqF rfl rfl (by omega) ?_ | refine k_neq rfl rfl (fun hc => ?_) (fun hc => ?_) | refine k_len rfl rfl ?_ | refine k_ok rfl rfl ?_))
      exact w_roundN ⟨i + 1, by omega, x4, oA4, oF4, rfl⟩ (by simp [cntD, Env.get]; omega)
    · have hq : v < 0 := by omega
      rw [decide_eq_false hp] at w3
      rw [decide_eq_true hq] at w4
      repeat' (first | refine w_seq ?_ | refine w_seqN ?_ | refine w_seqX ?_ | refine w_seqR ?_ | refine w_blk ?_ | refine w_blkN ?_ | refine w_blkX ?_ | refine w_blkR ?_ | refine w_skip ?_ | refine w_ret ?_ | refine w_exit ?_ | refine w_ops ?_ | refine w_opsD ?_ | refine d_one ?_ | refine d_nil ?_ | ((refine i_cond ?_); first | refine w_condT rfl ?_ | refine w_condF rfl ?_) | ((refine i_nil ?_); first | refine d_same ?_ | refine d_ord ?_ | refine d_ext ⟨_, rfl⟩ ?_ | refine d_ext (extA _ _ _) ?_ | refine d_ext (by assumption) ?_ | refine w_end0 ?_ | refine w_end1 rfl ?_ | refine w_end2 rfl rfl ?_ | refine w_end3 rfl rfl rfl ?_ | refine w_end4 rfl rfl rfl rfl ?_ | refine w_end5 rfl rfl rfl rfl rfl ?_ | refine w_end6 rfl rfl rfl rfl rfl rfl ?_ | refine w_end7 rfl rfl rfl rfl rfl rfl rfl ?_ | refine w_end8 rfl rfl rfl rfl rfl rfl rfl rfl ?_ | refine w_end9 rfl rfl rfl rfl rfl rfl rfl rfl rfl ?_ | refine w_end10 rfl rfl rfl rfl rfl rfl rfl rfl rfl rfl ?_ | refine w_end11 rfl rfl rfl rfl rfl rfl rfl rfl rfl rfl rfl ?_ | refine w_end12 rfl rfl rfl rfl rfl rfl rfl rfl rfl rfl rfl rfl ?_ | refine w_end13 rfl rfl rfl rfl rfl rfl rfl rfl rfl rfl rfl rfl rfl ?_ | refine w_end14 rfl rfl rfl rfl rfl rfl rfl rfl rfl rfl rfl rfl rfl rfl ?_ | refine w_end15 rfl rfl rfl rfl rfl rfl rfl rfl rfl rfl rfl rfl rfl rfl rfl ?_ | refine w_end16 rfl rfl rfl rfl rfl rfl rfl rfl rfl rfl rfl rfl rfl rfl rfl rfl ?_) | ((refine i_cons ?_); first | refine k_idxA (esz := 1) rfl rfl (by omega) ?_ | refine k_ld rfl hr ?_ | (refine k_call rfl k35 ?_; rintro v' _ ⟨rfl, rfl⟩) | refine k_st rfl rfl w1 ?_ | refine k_st rfl rfl w2 ?_ | refine k_ld rfl hr4 ?_ | refine k_st rfl rfl w3 ?_ | refine k_st rfl rfl w4 ?_ | refine k_skip rfl ?_ | refine k_skipU rfl ?_ | refine k_want rfl ?_ | refine k_mv rfl ?_ | refine k_pickT rfl rfl ?_ | refine k_pickF rfl rfl ?_ | refine k_notT rfl ?_ | refine k_notF rfl ?_ | refine k_add rfl rfl (by omega) ?_ | refine k_sub rfl rfl (by omega) ?_ | refine k_mul rfl rfl (by omega) ?_ | refine k_neg rfl (by omega) ?_ | refine k_quo rfl rfl (by omega) ?_ | refine k_rem rfl rfl (by omega) ?_ | refine k_conv rfl (by omega) ?_ | refine k_max rfl rfl ?_ | refine k_min rfl rfl ?_ | refine k_lssT rfl rfl (by omega) ?_ | refine k_lssF rfl rfl (by omega) ?_ | refine k_lss rfl rfl (fun hc => ?_) (fun hc => ?_) | refine k_leqT rfl rfl (by omega) ?_ | refine k_leqF rfl rfl (by omega) ?_ | refine k_leq rfl rfl (fun hc => ?_) (fun hc => ?_) | refine k_gtrT rfl rfl (by omega) ?_ | refine k_gtrF rfl rfl (by omega) ?_ | refine k_gtr rfl rfl (fun hc => ?_) (fun hc => ?_) | refine k_geqT rfl rfl (by omega) ?_ | refine k_geqF rfl rfl (by omega) ?_ | refine k_geq rfl rfl (fun hc => ?_) (fun hc => ?_) | refine k_eqlT rfl rfl (by omega) ?_ | refine k_eqlF rfl rfl (by omega) ?_ | refine k_eql rfl rfl (fun hc => ?_) (fun hc => ?_) | refine k_neqT rfl rfl (by omega) ?_ | refine k_neqF rfl rfl (by omega) ?_ | refine k_neq rfl rfl (fun hc => ?_) (fun hc => ?_) | refine k_len rfl rfl ?_ | refine k_ok rfl rfl ?_))
      exact w_roundN ⟨i + 1, by omega, x4, oA4, oF4, rfl⟩ (by simp [cntD, Env.get]; omega)
  · have : i = vs.length := by omega
    subst this
    repeat' (first | refine w_seq ?_ | refine w_seqN ?_ | refine w_seqX ?_ | refine w_seqR ?_ | refine w_blk ?_ | refine w_blkN ?_ | refine w_blkX ?_ | refine w_blkR ?_ | refine w_skip ?_ | refine w_ret ?_ | refine w_exit ?_ | refine w_ops ?_ | refine w_opsD ?_ | refine d_one ?_ | refine d_nil ?_ | ((refine i_cond ?_); first | refine w_condT rfl ?_ | refine w_condF rfl ?_) | ((refine i_nil ?_); first | refine d_same ?_ | refine d_ord ?_ | refine d_ext ⟨_, rfl⟩ ?_ | refine d_ext (extA _ _ _) ?_ | refine d_ext (by assumption) ?_ | refine w_end0 ?_ | refine w_end1 rfl ?_ | refine w_end2 rfl rfl ?_ | refine w_end3 rfl rfl rfl ?_ | refine w_end4 rfl rfl rfl rfl ?_ | refine w_end5 rfl rfl rfl rfl rfl ?_ | refine w_end6 rfl rfl rfl rfl rfl rfl ?_ | refine w_end7 rfl rfl rfl rfl rfl rfl rfl ?_ | refine w_end8 rfl rfl rfl rfl rfl rfl rfl rfl ?_ | refine w_end9 rfl rfl rfl rfl rfl rfl rfl rfl rfl ?_ | refine w_end10 rfl rfl rfl rfl rfl rfl rfl rfl rfl rfl ?_ | refine w_end11 rfl rfl rfl rfl rfl rfl rfl rfl rfl rfl rfl ?_ | refine w_end12 rfl rfl rfl rfl rfl rfl rfl rfl rfl rfl rfl rfl ?_ | refine w_end13 rfl rfl rfl rfl rfl rfl rfl rfl rfl rfl rfl rfl rfl ?_ | refine w_end14 rfl rfl rfl rfl rfl rfl rfl rfl rfl rfl rfl rfl rfl rfl ?_ | refine w_end15 rfl rfl rfl rfl rfl rfl rfl rfl rfl rfl rfl rfl rfl rfl rfl ?_ | refine w_end16 rfl rfl rfl rfl rfl rfl rfl rfl rfl rfl rfl rfl rfl rfl rfl rfl ?_) | ((refine i_cons ?_); first | refine k_skip rfl ?_ | refine k_skipU rfl ?_ | refine k_want rfl ?_ | refine k_mv rfl ?_ | refine k_pickT rfl rfl ?_ | refine k_pickF rfl rfl ?_ | refine k_notT rfl ?_ | refine k_notF rfl ?_ | refine k_add rfl rfl (by omega) ?_ | refine k_sub rfl rfl (by omega) ?_ | refine k_mul rfl rfl (by omega) ?_ | refine k_neg rfl (by omega) ?_ | refine k_quo rfl rfl (by omega) ?_ | refine k_rem rfl rfl (by omega) ?_ | refine k_conv rfl (by omega) ?_ | refine k_max rfl rfl ?_ | refine k_min rfl rfl ?_ | refine k_lssT rfl rfl (by omega) ?_ | refine k_lssF rfl rfl (by omega) ?_ | refine k_lss rfl rfl (fun hc => ?_) (fun hc => ?_) | refine k_leqT rfl rfl (by omega) ?_ | refine k_leqF rfl rfl (by omega) ?_ | refine k_leq rfl rfl (fun hc => ?_) (fun hc => ?_) | refine k_gtrT rfl rfl (by omega) ?_ | refine k_gtrF rfl rfl (by omega) ?_ | refine k_gtr rfl rfl (fun hc => ?_) (fun hc => ?_) | refine k_geqT rfl rfl (by omega) ?_ | refine k_geqF rfl rfl (by omega) ?_ | refine k_geq rfl rfl (fun hc => ?_) (fun hc => ?_) | refine k_eqlT rfl rfl (by omega) ?_ | refine k_eqlF rfl rfl (by omega) ?_ | refine k_eql rfl rfl (fun hc => ?_) (fun hc => ?_) | refine k_neqT rfl rfl (by omega) ?_ | refine k_neqF rfl rfl (by omega) ?_ | refine k_neq rfl rfl (fun hc => ?_) (fun hc => ?_) | refine k_len rfl rfl ?_ | refine k_ok rfl rfl ?_))
    exact w_roundX ⟨rfl, e, oA, oF, _, _, _, rfl⟩
/-! ### The second loop -/
theorem sh_pos {n c : Nat} (hc : c < n) : (2 * (c : Int) + 2 * (n : Int) - 1) % (2 * (n : Int)) = ((wS n c : Nat) : Int) - 1 := by
  unfold wS
  by_cases h : c = 0
  · rw [if_pos h, Int.emod_eq_of_lt (by omega) (by omega)]; omega
  · rw [if_neg h, show 2 * (c : Int) + 2 * (n : Int) - 1 = (2 * (c : Int) - 1) + 2 * (n : Int) by omega, Int.add_emod_right, Int.emod_eq_of_lt (by omega) (by omega)]; omega
theorem shL_take {vs : List Int} {i : Nat} (hi : i < vs.length) : (shL vs).take (i + 1) = (shL vs).take i ++ [shV vs i] :=
  take_snoc (by simp [shL, hi])
def I25b (hb : Heap) (A F : SV) (vs : List Int) (E : Env) (h : Heap) : Prop := ∃ (i : Nat) (w : SV), i ≤ vs.length ∧ Ext hb h ∧ Own hb h w (ints ((shL vs).take i)) ∧
  E = [(3, some (.sc (.int .i64 (vs.length : Nat)))), (4, some (.sc A)), (5, some (.sc F)), (9, some (.sc w)), (10, some (.sc (.int .i64 (i : Nat))))]
def R25b (hb : Heap) (A F : SV) (vs : List Int) (ex : Ex) (E : Env) (h : Heap) : Prop := ex = .ex 2 ∧ Ext hb h ∧ ∃ w a b c d e, Own hb h w (ints (shL vs)) ∧
  E = [(3, a), (4, b), (5, c), (9, some (.sc w)), (10, d), (60, e)]
theorem round25b (hb hA : Heap) (A F : SV) (vs : List Int) (hg : Good vs) (oA : Own hA hb A (ints (prD vs vs.length))) (oF : Own hA hb F (bools (flD vs vs.length))) (E : Env) (h : Heap) (hI : I25b hb A F vs E h) :
    wA FT HK b25L1 (E.keep [3, 4, 5, 9, 10]) h (wRound (I25b hb A F vs) (cntD vs.length 10) (cntD vs.length 10 E h) (R25b hb A F vs)) := by
  obtain ⟨i, w, hi, e, ow, rfl⟩ := hI
  have h64 := hg.2.1
  by_cases hlt : i < vs.length
  · obtain ⟨c1, c2⟩ := nuS_at hg hlt
    have hw := wS_rng c1
    have en := shL_take hlt
    have hsv : shV vs i = if 0 < vs.getD (nuS vs i) 0 then -((wS vs.length (nuS vs i) : Nat) : Int) else ((wS vs.length (nuS vs i) : Nat) : Int) := rfl
    have lp := prD_len vs vs.length
    have lf := flD_len vs vs.length
    have hp1 := prD_at hg (Nat.le_refl _) _ c1
    have hf1 := flD_at hg (Nat.le_refl _) _ c1
    have hpos := sh_pos c1
    rw [c2, show 2 * (i + 1) - 1 = 2 * i + 1 by omega] at hp1
    generalize nuS vs i = c at *
    have hx : (ints (prD vs vs.length))[2 * i + 1]? = some (.int .i64 (2 * (c : Int))) := by
      rw [ints, List.getElem?_map, List.getElem?_eq_getElem (by omega), ← hp1, List.getD_eq_getElem?_getD, List.getElem?_eq_getElem (by omega)]; rfl
    have hy : (bools (flD vs vs.length))[2 * c]? = some (.bool (decide (0 < vs.getD c 0))) := by
      rw [bools, List.getElem?_map, List.getElem?_eq_getElem (by omega), ← hf1, List.getD_eq_getElem?_getD, List.getElem?_eq_getElem (by omega)]; rfl
    obtain ⟨idA, cA, rfl, rA0⟩ := Own.rd oA hx
    obtain ⟨idF, cF, rfl, rF0⟩ := Own.rd oF hy
    have rA := readN_extD e rA0
    have rF := readN_extD e rF0
    have lA : (ints (prD vs vs.length)).length = 2 * vs.length := by simp [ints, lp]
    have lF : (bools (flD vs vs.length)).length = 2 * vs.length := by simp [bools, lf]
    simp only [lA, lF]
    have m1 : (2 * (i : Int) + 1) % (2 * (vs.length : Int)) = 2 * (i : Int) + 1 := Int.emod_eq_of_lt (by omega) (by omega)
    have i1 : (2 * (i : Int) + 1).toNat = 2 * i + 1 := by omega
    have i2 : (2 * (c : Int)).toNat = 2 * c := by omega
    rw [← i1] at rA
    rw [← i2] at rF
    have hwl : (ints ((shL vs).take i)).length = i := by simp [ints, shL_len]; omega
    obtain ⟨W, hW⟩ : ∃ W, wS vs.length c = W := ⟨_, rfl⟩
    rw [hW] at hpos hsv hw
    by_cases hp : 0 < vs.getD c 0
    · rw [decide_eq_true hp] at rF
      rw [if_pos hp] at hsv
      rw [hsv] at en
      repeat' (first | refine w_seq ?_ | refine w_seqN ?_ | refine w_seqX ?_ | refine w_seqR ?_ | refine w_blk ?_ | refine w_blkN ?_ | refine w_blkX ?_ | refine w_blkR ?_ | refine w_skip ?_ | refine w_ret ?_ | refine w_exit ?_ | refine w_ops ?_ | refine w_opsD ?_ | refine d_one ?_ | refine d_nil ?_ | ((refine i_cond ?_); first | refine w_condT rfl ?_ | refine w_condF rfl ?_) | ((refine i_nil ?_); first | refine d_same ?_ | refine d_ord ?_ | refine d_ext ⟨_, rfl⟩ ?_ | refine d_ext (extA _ _ _) ?_ | refine d_ext (by assumption) ?_ | refine w_end0 ?_ | refine w_end1 rfl ?_ | refine w_end2 rfl rfl ?_ | refine w_end3 rfl rfl rfl ?_ | refine w_end4 rfl rfl rfl rfl ?_ | refine w_end5 rfl rfl rfl rfl rfl ?_ | refine w_end6 rfl rfl rfl rfl rfl rfl ?_ | refine w_end7 rfl rfl rfl rfl rfl rfl rfl ?_ | refine w_end8 rfl rfl rfl rfl rfl rfl rfl rfl ?_ | refine w_end9 rfl rfl rfl rfl rfl rfl rfl rfl rfl ?_ | refine w_end10 rfl rfl rfl rfl rfl rfl rfl rfl rfl rfl ?_ | refine w_end11 rfl rfl rfl rfl rfl rfl rfl rfl rfl rfl rfl ?_ | refine w_end12 rfl rfl rfl rfl rfl rfl rfl rfl rfl rfl rfl rfl ?_ | refine w_end13 rfl rfl rfl rfl rfl rfl rfl rfl rfl rfl rfl rfl rfl ?_ | refine w_end14 rfl rfl rfl rfl rfl rfl rfl rfl rfl rfl rfl rfl rfl rfl ?_ | refine w_end15 rfl rfl rfl rfl rfl rfl rfl rfl rfl rfl rfl rfl rfl rfl rfl ?_ | refine w_end16 rfl rfl rfl rfl rfl rfl rfl rfl rfl rfl rfl rfl rfl rfl rfl rfl ?_) | ((refine i_cons ?_); first | refine k_idxA (esz := 1) rfl rfl (by omega) ?_ | refine k_ld rfl rA ?_ | refine k_ld rfl rF ?_ | refine k_remc rfl rfl (by omega) m1 ?_ | refine k_remc rfl rfl (by omega) hpos ?_ | refine k_neg rfl (by omega) ?_ | (refine k_push e ow rfl rfl (by rw [hwl]; simp only [bigN]; omega) ?_; intro w' h2 o2 e2 f2) | refine k_skip rfl ?_ | refine k_skipU rfl ?_ | refine k_want rfl ?_ | refine k_mv rfl ?_ | refine k_pickT rfl rfl ?_ | refine k_pickF rfl rfl ?_ | refine k_notT rfl ?_ | refine k_notF rfl ?_ | refine k_add rfl rfl (by omega) ?_ | refine k_sub rfl rfl (by omega) ?_ | refine k_mul rfl rfl (by omega) ?_ | refine k_neg rfl (by omega) ?_ | refine k_quo rfl rfl (by omega) ?_ | refine k_rem rfl rfl (by omega) ?_ | refine k_conv rfl (by omega) ?_ | refine k_max rfl rfl ?_ | refine k_min rfl rfl ?_ | refine k_lssT rfl rfl (by omega) ?_ | refine k_lssF rfl rfl (by omega) ?_ | refine k_lss rfl rfl (fun hc => ?_) (fun hc => ?_) | refine k_leqT rfl rfl (by omega) ?_ | refine k_leqF rfl rfl (by omega) ?_ | refine k_leq rfl rfl (fun hc => ?_) (fun hc => ?_) | refine k_gtrT rfl rfl (by omega) ?_ | refine k_gtrF rfl rfl (by omega) ?_ | refine k_gtr rfl rfl (fun hc => ?_) (fun hc => ?_) | refine k_geqT rfl rfl (by omega) ?_ | refine k_geqF rfl rfl (by omega) ?_ | refine k_geq rfl rfl (fun hc => ?_) (fun hc => ?_) | refine k_eqlT rfl rfl (by omega) ?_ | refine k_eqlF rfl rfl (by omega) ?_ | refine k_eql rfl rfl (fun hc => ?_) (fun hc => ?_) | refine k_neqT rfl rfl (by omega) ?_ | refine k_neqF rfl rfl (by omega) ?_ | refine k_neq rfl rfl (fun hc => ?_) (fun hc => ?_) | refine k_len rfl rfl ?_ | refine k_ok rfl rfl ?_))
      exact w_roundN ⟨i + 1, w', by omega, e2, by rw [en]; simpa [ints, show -((W : Int) - 1 + 1) = -(W : Int) by omega] using o2, rfl⟩ (by simp [cntD, Env.get]; omega)
    · rw [decide_eq_false hp] at rF
      rw [if_neg hp] at hsv
      rw [hsv] at en
      repeat' (first | refine w_seq ?_ | refine w_seqN ?_ | refine w_seqX ?_ | refine w_seqR ?_ | refine w_blk ?_ | refine w_blkN ?_ | refine w_blkX ?_ | refine w_blkR ?_ | refine w_skip ?_ | refine w_ret ?_ | refine w_exit ?_ | refine w_ops ?_ | refine w_opsD ?_ | refine d_one ?_ | refine d_nil ?_ | ((refine i_cond ?_); first | refine w_condT rfl ?_ | refine w_condF rfl ?_) | ((refine i_nil ?_); first | refine d_same ?_ | refine d_ord ?_ | refine d_ext ⟨_, rfl⟩ ?_ | refine d_ext (extA _ _ _) ?_ | refine d_ext (by assumption) ?_ | refine w_end0 ?_ | refine w_end1 rfl ?_ | refine w_end2 rfl rfl ?_ | refine w_end3 rfl rfl rfl ?_ | refine w_end4 rfl rfl rfl rfl ?_ | refine w_end5 rfl rfl rfl rfl rfl ?_ | refine w_end6 rfl rfl rfl rfl rfl rfl ?_ | refine w_end7 rfl rfl rfl rfl rfl rfl rfl ?_ | refine w_end8 rfl rfl rfl rfl rfl rfl rfl rfl ?_ | refine w_end9 rfl rfl rfl rfl rfl rfl rfl rfl rfl ?_ | refine w_end10 rfl rfl rfl rfl rfl rfl rfl rfl rfl rfl ?_ | refine w_end11 rfl rfl rfl rfl rfl rfl rfl rfl rfl rfl rfl ?_ | refine w_end12 rfl rfl rfl rfl rfl rfl rfl rfl rfl rfl rfl rfl ?_ | refine w_end13 rfl rfl rfl rfl rfl rfl rfl rfl rfl rfl rfl rfl rfl ?_ | refine w_end14 rfl rfl rfl rfl rfl rfl rfl rfl rfl rfl rfl rfl rfl rfl ?_ | refine w_end15 rfl rfl rfl rfl rfl rfl rfl rfl rfl rfl rfl rfl rfl rfl rfl ?_ | refine w_end16 rfl rfl rfl rfl rfl rfl rfl rfl rfl rfl rfl rfl rfl rfl rfl rfl ?_) | ((refine i_cons ?_); first | refine k_idxA (esz := 1) rfl rfl (by omega) ?_ | refine k_ld rfl rA ?_ | refine k_ld rfl rF ?_ | refine k_remc rfl rfl (by omega) m1 ?_ | refine k_remc rfl rfl (by omega) hpos ?_ | refine k_neg rfl (by omega) ?_ | (refine k_push e ow rfl rfl (by rw [hwl]; simp only [bigN]; omega) ?_; intro w' h2 o2 e2 f2) | refine k_skip rfl ?_ | refine k_skipU rfl ?_ | refine k_want rfl ?_ | refine k_mv rfl ?_ | refine k_pickT rfl rfl ?_ | refine k_pickF rfl rfl ?_ | refine k_notT rfl ?_ | refine k_notF rfl ?_ | refine k_add rfl rfl (by omega) ?_ | refine k_sub rfl rfl (by omega) ?_ | refine k_mul rfl rfl (by omega) ?_ | refine k_neg rfl (by omega) ?_ | refine k_quo rfl rfl (by omega) ?_ | refine k_rem rfl rfl (by omega) ?_ | refine k_conv rfl (by omega) ?_ | refine k_max rfl rfl ?_ | refine k_min rfl rfl ?_ | refine k_lssT rfl rfl (by omega) ?_ | refine k_lssF rfl rfl (by omega) ?_ | refine k_lss rfl rfl (fun hc => ?_) (fun hc => ?_) | refine k_leqT rfl rfl (by omega) ?_ | refine k_leqF rfl rfl (by omega) ?_ | refine k_leq rfl rfl (fun hc => ?_) (fun hc => ?_) | refine k_gtrT rfl rfl (by omega) ?_ | refine k_gtrF rfl rfl (by omega) ?_ | refine k_gtr rfl rfl (fun hc => ?_) (fun hc => ?_) | refine k_geqT rfl rfl (by omega) ?_ | refine k_geqF rfl rfl (by omega) ?_ | refine k_geq rfl rfl (fun hc => ?_) (fun hc => ?_) | refine k_eqlT rfl rfl (by omega) ?_ | refine k_eqlF rfl rfl (by omega) ?_ | refine k_eql rfl rfl (fun hc => ?_) (fun hc => ?_) | refine k_neqT rfl rfl (by omega) ?_ | refine k_neqF rfl rfl (by omega) ?_ | refine k_neq rfl rfl (fun hc => ?_) (fun hc => ?_) | refine k_len rfl rfl ?_ | refine k_ok rfl rfl ?_))
      exact w_roundN ⟨i + 1, w', by omega, e2, by rw [en]; simpa [ints, show ((W : Int) - 1 + 1) = (W : Int) by omega] using o2, rfl⟩ (by simp [cntD, Env.get]; omega)
  · have : i = vs.length := by omega
    subst this
    rw [List.take_of_length_le (by rw [shL_len]; exact Nat.le_refl _)] at ow
    repeat' (first | refine w_seq ?_ | refine w_seqN ?_ | refine w_seqX ?_ | refine w_seqR ?_ | refine w_blk ?_ | refine w_blkN ?_ | refine w_blkX ?_ | refine w_blkR ?_ | refine w_skip ?_ | refine w_ret ?_ | refine w_exit ?_ | refine w_ops ?_ | refine w_opsD ?_ | refine d_one ?_ | refine d_nil ?_ | ((refine i_cond ?_); first | refine w_condT rfl ?_ | refine w_condF rfl ?_) | ((refine i_nil ?_); first | refine d_same ?_ | refine d_ord ?_ | refine d_ext ⟨_, rfl⟩ ?_ | refine d_ext (extA _ _ _) ?_ | refine d_ext (by assumption) ?_ | refine w_end0 ?_ | refine w_end1 rfl ?_ | refine w_end2 rfl rfl ?_ | refine w_end3 rfl rfl rfl ?_ | refine w_end4 rfl rfl rfl rfl ?_ | refine w_end5 rfl rfl rfl rfl rfl ?_ | refine w_end6 rfl rfl rfl rfl rfl rfl ?_ | refine w_end7 rfl rfl rfl rfl rfl rfl rfl ?_ | refine w_end8 rfl rfl rfl rfl rfl rfl rfl rfl ?_ | refine w_end9 rfl rfl rfl rfl rfl rfl rfl rfl rfl ?_ | refine w_end10 rfl rfl rfl rfl rfl rfl rfl rfl rfl rfl ?_ | refine w_end11 rfl rfl rfl rfl rfl rfl rfl rfl rfl rfl rfl ?_ | refine w_end12 rfl rfl rfl rfl rfl rfl rfl rfl rfl rfl rfl rfl ?_ | refine w_end13 rfl rfl rfl rfl rfl rfl rfl rfl rfl rfl rfl rfl rfl ?_ | refine w_end14 rfl rfl rfl rfl rfl rfl rfl rfl rfl rfl rfl rfl rfl rfl ?_ | refine w_end15 rfl rfl rfl rfl rfl rfl rfl rfl rfl rfl rfl rfl rfl rfl rfl ?_ | refine w_end16 rfl rfl rfl rfl rfl rfl rfl rfl rfl rfl rfl rfl rfl rfl rfl rfl ?_) | ((refine i_cons ?_); first | refine k_skip rfl ?_ | refine k_skipU rfl ?_ | refine k_want rfl ?_ | refine k_mv rfl ?_ | refine k_pickT rfl rfl ?_ | refine k_pickF rfl rfl ?_ | refine k_notT rfl ?_ | refine k_notF rfl ?_ | refine k_add rfl rfl (by omega) ?_ | refine k_sub rfl rfl (by omega) ?_ | refine k_mul rfl rfl (by omega) ?_ | refine k_neg rfl (by omega) ?_ | refine k_quo rfl rfl (by omega) ?_ | refine k_rem rfl rfl (by omega) ?_ | refine k_conv rfl (by omega) ?_ | refine k_max rfl rfl ?_ | refine k_min rfl rfl ?_ | refine k_lssT rfl rfl (by omega) ?_ | refine k_lssF rfl rfl (by omega) ?_ | refine k_lss rfl rfl (fun hc => ?_) (fun hc => ?_) | refine k_leqT rfl rfl (by omega) ?_ | refine k_leqF rfl rfl (by omega) ?_ | refine k_leq rfl rfl (fun hc => ?_) (fun hc => ?_) | refine k_gtrT rfl rfl (by omega) ?_ | refine k_gtrF rfl rfl (by omega) ?_ | refine k_gtr rfl rfl (fun hc => ?_) (fun hc => ?_) | refine k_geqT rfl rfl (by omega) ?_ | refine k_geqF rfl rfl (by omega) ?_ | refine k_geq rfl rfl (fun hc => ?_) (fun hc => ?_) | refine k_eqlT rfl rfl (by omega) ?_ | refine k_eqlF rfl rfl (by omega) ?_ | refine k_eql rfl rfl (fun hc => ?_) (fun hc => ?_) | refine k_neqT rfl rfl (by omega) ?_ | refine k_neqF rfl rfl (by omega) ?_ | refine k_neq rfl rfl (fun hc => ?_) (fun hc => ?_) | refine k_len rfl rfl ?_ | refine k_ok rfl rfl ?_))
    exact w_roundX ⟨rfl, e, w, _, _, _, _, _, ow, rfl⟩
theorem call25 (hk25 : HK 25 = none) (hk35 : HK 35 = none) (h0 : Heap) (o : SV) (vs : List Int) (hg : Good vs) (ho : IsInts h0 o vs) :
    ∃ v h', Cal FT HK 25 [.sc o] h0 v h' ∧ Ext h0 h' ∧ ∃ t, v = .sc t ∧ IsInts h' t (shL vs) := by
  refine Cal.of (F := a25) hk25 rfl rfl ?_
  have lo := IsSl.len ho
  have h64 := hg.2.1
  repeat' (first | refine w_seq ?_ | refine w_seqN ?_ | refine w_seqX ?_ | refine w_seqR ?_ | refine w_blk ?_ | refine w_blkN ?_ | refine w_blkX ?_ | refine w_blkR ?_ | refine w_skip ?_ | refine w_ret ?_ | refine w_exit ?_ | refine w_ops ?_ | refine w_opsD ?_ | refine d_one ?_ | refine d_nil ?_ | ((refine i_cond ?_); first | refine w_condT rfl ?_ | refine w_condF rfl ?_) | ((refine i_nil ?_); first | refine d_same ?_ | refine d_ord ?_ | refine d_ext ⟨_, rfl⟩ ?_ | refine d_ext (extA _ _ _) ?_ | refine d_ext (by assumption) ?_ | refine w_end0 ?_ | refine w_end1 rfl ?_ | refine w_end2 rfl rfl ?_ | refine w_end3 rfl rfl rfl ?_ | refine w_end4 rfl rfl rfl rfl ?_ | refine w_end5 rfl rfl rfl rfl rfl ?_ | refine w_end6 rfl rfl rfl rfl rfl rfl ?_ | refine w_end7 rfl rfl rfl rfl rfl rfl rfl ?_ | refine w_end8 rfl rfl rfl rfl rfl rfl rfl rfl ?_ | refine w_end9 rfl rfl rfl rfl rfl rfl rfl rfl rfl ?_ | refine w_end10 rfl rfl rfl rfl rfl rfl rfl rfl rfl rfl ?_ | refine w_end11 rfl rfl rfl rfl rfl rfl rfl rfl rfl rfl rfl ?_ | refine w_end12 rfl rfl rfl rfl rfl rfl rfl rfl rfl rfl rfl rfl ?_ | refine w_end13 rfl rfl rfl rfl rfl rfl rfl rfl rfl rfl rfl rfl rfl ?_ | refine w_end14 rfl rfl rfl rfl rfl rfl rfl rfl rfl rfl rfl rfl rfl rfl ?_ | refine w_end15 rfl rfl rfl rfl rfl rfl rfl rfl rfl rfl rfl rfl rfl rfl rfl ?_ | refine w_end16 rfl rfl rfl rfl rfl rfl rfl rfl rfl rfl rfl rfl rfl rfl rfl rfl ?_) | ((refine i_cons ?_); first | refine k_len rfl lo ?_ | (have z := o1; refine k_mkO (h0 := h0) e1 rfl rfl (by simp only [bigN]; omega) ?_; intro F h2 o2 e2 e2' l2) | (refine k_mkO (h0 := h0) (Ext.refl _) rfl rfl (by simp only [bigN]; omega) ?_; intro A h1 o1 e1 e1' l1) | refine k_skip rfl ?_ | refine k_skipU rfl ?_ | refine k_want rfl ?_ | refine k_mv rfl ?_ | refine k_pickT rfl rfl ?_ | refine k_pickF rfl rfl ?_ | refine k_notT rfl ?_ | refine k_notF rfl ?_ | refine k_add rfl rfl (by omega) ?_ | refine k_sub rfl rfl (by omega) ?_ | refine k_mul rfl rfl (by omega) ?_ | refine k_neg rfl (by omega) ?_ | refine k_quo rfl rfl (by omega) ?_ | refine k_rem rfl rfl (by omega) ?_ | refine k_conv rfl (by omega) ?_ | refine k_max rfl rfl ?_ | refine k_min rfl rfl ?_ | refine k_lssT rfl rfl (by omega) ?_ | refine k_lssF rfl rfl (by omega) ?_ | refine k_lss rfl rfl (fun hc => ?_) (fun hc => ?_) | refine k_leqT rfl rfl (by omega) ?_ | refine k_leqF rfl rfl (by omega) ?_ | refine k_leq rfl rfl (fun hc => ?_) (fun hc => ?_) | refine k_gtrT rfl rfl (by omega) ?_ | refine k_gtrF rfl rfl (by omega) ?_ | refine k_gtr rfl rfl (fun hc => ?_) (fun hc => ?_) | refine k_geqT rfl rfl (by omega) ?_ | refine k_geqF rfl rfl (by omega) ?_ | refine k_geq rfl rfl (fun hc => ?_) (fun hc => ?_) | refine k_eqlT rfl rfl (by omega) ?_ | refine k_eqlF rfl rfl (by omega) ?_ | refine k_eql rfl rfl (fun hc => ?_) (fun hc => ?_) | refine k_neqT rfl rfl (by omega) ?_ | refine k_neqF rfl rfl (by omega) ?_ | refine k_neq rfl rfl (fun hc => ?_) (fun hc => ?_) | refine k_len rfl rfl ?_ | refine k_ok rfl rfl ?_))
  have ez : (2 * (vs.length : Int)).toNat = 2 * vs.length := by omega
  rw [ez] at o1 o2
  have e02 : Ext h0 h2 := e1.trans e2
  have oA : Own h0 h2 A (ints (prD vs 0)) := by
    have := o1.ext e2
    simpa [ints, prD] using this
  have oF : Own h0 h2 F (bools (flD vs 0)) := by
    have := Own.weaken o2 e1.len
    simpa [bools, flD] using this
  have ap : Ab.Apart A F := apart_newD o1 (own_fshD o2)
  refine w_loop (I25a h0 o A F vs) (cntD vs.length 6) (R25a h0 o A F vs) ⟨0, Nat.zero_le _, e02, oA, oF, rfl⟩ (round25a hk35 h0 o A F vs hg ho ap) ?_
  rintro ex E' h3 ⟨rfl, e3, oA3, oF3, a, b, c, rfl⟩
  repeat' (first | refine w_seq ?_ | refine w_seqN ?_ | refine w_seqX ?_ | refine w_seqR ?_ | refine w_blk ?_ | refine w_blkN ?_ | refine w_blkX ?_ | refine w_blkR ?_ | refine w_skip ?_ | refine w_ret ?_ | refine w_exit ?_ | refine w_ops ?_ | refine w_opsD ?_ | refine d_one ?_ | refine d_nil ?_ | ((refine i_cond ?_); first | refine w_condT rfl ?_ | refine w_condF rfl ?_) | ((refine i_nil ?_); first | refine d_same ?_ | refine d_ord ?_ | refine d_ext ⟨_, rfl⟩ ?_ | refine d_ext (extA _ _ _) ?_ | refine d_ext (by assumption) ?_ | refine w_end0 ?_ | refine w_end1 rfl ?_ | refine w_end2 rfl rfl ?_ | refine w_end3 rfl rfl rfl ?_ | refine w_end4 rfl rfl rfl rfl ?_ | refine w_end5 rfl rfl rfl rfl rfl ?_ | refine w_end6 rfl rfl rfl rfl rfl rfl ?_ | refine w_end7 rfl rfl rfl rfl rfl rfl rfl ?_ | refine w_end8 rfl rfl rfl rfl rfl rfl rfl rfl ?_ | refine w_end9 rfl rfl rfl rfl rfl rfl rfl rfl rfl ?_ | refine w_end10 rfl rfl rfl rfl rfl rfl rfl rfl rfl rfl ?_ | refine w_end11 rfl rfl rfl rfl rfl rfl rfl rfl rfl rfl rfl ?_ | refine w_end12 rfl rfl rfl rfl rfl rfl rfl rfl rfl rfl rfl rfl ?_ | refine w_end13 rfl rfl rfl rfl rfl rfl rfl rfl rfl rfl rfl rfl rfl ?_ | refine w_end14 rfl rfl rfl rfl rfl rfl rfl rfl rfl rfl rfl rfl rfl rfl ?_ | refine w_end15 rfl rfl rfl rfl rfl rfl rfl rfl rfl rfl rfl rfl rfl rfl rfl ?_ | refine w_end16 rfl rfl rfl rfl rfl rfl rfl rfl rfl rfl rfl rfl rfl rfl rfl rfl ?_) | ((refine i_cons ?_); first | refine k_skip rfl ?_ | refine k_skipU rfl ?_ | refine k_want rfl ?_ | refine k_mv rfl ?_ | refine k_pickT rfl rfl ?_ | refine k_pickF rfl rfl ?_ | refine k_notT rfl ?_ | refine k_notF rfl ?_ | refine k_add rfl rfl (by omega) ?_ | refine k_sub rfl rfl (by omega) ?_ | refine k_mul rfl rfl (by omega) ?_ | refine k_neg rfl (by omega) ?_ | refine k_quo rfl rfl (by omega) ?_ | refine k_rem rfl rfl (by omega) ?_ | refine k_conv rfl (by omega) ?_ | refine k_max rfl rfl ?_ | refine k_min rfl rfl ?_ | refine k_lssT rfl rfl (by omega) ?_ | refine k_lssF rfl rfl (by omega) ?_ | refine k_lss rfl rfl (fun hc => ?_) (fun hc => ?_) | refine k_leqT rfl rfl (by omega) ?_ | refine k_leqF rfl rfl (by omega) ?_ | refine k_leq rfl rfl (fun hc => ?_) (fun hc => ?_) | refine k_gtrT rfl rfl (by omega) ?_ | refine k_gtrF rfl rfl (by omega) ?_ | refine k_gtr rfl rfl (fun hc => ?_) (fun hc => ?_) | refine k_geqT rfl rfl (by omega) ?_ | refine k_geqF rfl rfl (by omega) ?_ | refine k_geq rfl rfl (fun hc => ?_) (fun hc => ?_) | refine k_eqlT rfl rfl (by omega) ?_ | refine k_eqlF rfl rfl (by omega) ?_ | refine k_eql rfl rfl (fun hc => ?_) (fun hc => ?_) | refine k_neqT rfl rfl (by omega) ?_ | refine k_neqF rfl rfl (by omega) ?_ | refine k_neq rfl rfl (fun hc => ?_) (fun hc => ?_) | refine k_len rfl rfl ?_ | refine k_ok rfl rfl ?_))
  refine w_loop (I25b h3 A F vs) (cntD vs.length 10) (R25b h3 A F vs) ⟨0, .nilS, Nat.zero_le _, Ext.refl _, .inl ⟨rfl, by simp⟩, rfl⟩ (round25b h3 h0 A F vs hg oA3 oF3) ?_
  rintro ex E' h4 ⟨rfl, e4, w, a, b, c, d, e, ow, rfl⟩
  repeat' (first | refine w_seq ?_ | refine w_seqN ?_ | refine w_seqX ?_ | refine w_seqR ?_ | refine w_blk ?_ | refine w_blkN ?_ | refine w_blkX ?_ | refine w_blkR ?_ | refine w_skip ?_ | refine w_ret ?_ | refine w_exit ?_ | refine w_ops ?_ | refine w_opsD ?_ | refine d_one ?_ | refine d_nil ?_ | ((refine i_cond ?_); first | refine w_condT rfl ?_ | refine w_condF rfl ?_) | ((refine i_nil ?_); first | refine d_same ?_ | refine d_ord ?_ | refine d_ext ⟨_, rfl⟩ ?_ | refine d_ext (extA _ _ _) ?_ | refine d_ext (by assumption) ?_ | refine w_end0 ?_ | refine w_end1 rfl ?_ | refine w_end2 rfl rfl ?_ | refine w_end3 rfl rfl rfl ?_ | refine w_end4 rfl rfl rfl rfl ?_ | refine w_end5 rfl rfl rfl rfl rfl ?_ | refine w_end6 rfl rfl rfl rfl rfl rfl ?_ | refine w_end7 rfl rfl rfl rfl rfl rfl rfl ?_ | refine w_end8 rfl rfl rfl rfl rfl rfl rfl rfl ?_ | refine w_end9 rfl rfl rfl rfl rfl rfl rfl rfl rfl ?_ | refine w_end10 rfl rfl rfl rfl rfl rfl rfl rfl rfl rfl ?_ | refine w_end11 rfl rfl rfl rfl rfl rfl rfl rfl rfl rfl rfl ?_ | refine w_end12 rfl rfl rfl rfl rfl rfl rfl rfl rfl rfl rfl rfl ?_ | refine w_end13 rfl rfl rfl rfl rfl rfl rfl rfl rfl rfl rfl rfl rfl ?_ | refine w_end14 rfl rfl rfl rfl rfl rfl rfl rfl rfl rfl rfl rfl rfl rfl ?_ | refine w_end15 rfl rfl rfl rfl rfl rfl rfl rfl rfl rfl rfl rfl rfl rfl rfl ?_ | refine w_end16 rfl rfl rfl rfl rfl rfl rfl rfl rfl rfl rfl rfl rfl rfl rfl rfl ?_) | ((refine i_cons ?_); first | refine k_skip rfl ?_ | refine k_skipU rfl ?_ | refine k_want rfl ?_ | refine k_mv rfl ?_ | refine k_pickT rfl rfl ?_ | refine k_pickF rfl rfl ?_ | refine k_notT rfl ?_ | refine k_notF rfl ?_ | refine k_add rfl rfl (by omega) ?_ | refine k_sub rfl rfl (by omega) ?_ | refine k_mul rfl rfl (by omega) ?_ | refine k_neg rfl (by omega) ?_ | refine k_quo rfl rfl (by omega) ?_ | refine k_rem rfl rfl (by omega) ?_ | refine k_conv rfl (by omega) ?_ | refine k_max rfl rfl ?_ | refine k_min rfl rfl ?_ | refine k_lssT rfl rfl (by omega) ?_ | refine k_lssF rfl rfl (by omega) ?_ | refine k_lss rfl rfl (fun hc => ?_) (fun hc => ?_) | refine k_leqT rfl rfl (by omega) ?_ | refine k_leqF rfl rfl (by omega) ?_ | refine k_leq rfl rfl (fun hc => ?_) (fun hc => ?_) | refine k_gtrT rfl rfl (by omega) ?_ | refine k_gtrF rfl rfl (by omega) ?_ | refine k_gtr rfl rfl (fun hc => ?_) (fun hc => ?_) | refine k_geqT rfl rfl (by omega) ?_ | refine k_geqF rfl rfl (by omega) ?_ | refine k_geq rfl rfl (fun hc => ?_) (fun hc => ?_) | refine k_eqlT rfl rfl (by omega) ?_ | refine k_eqlF rfl rfl (by omega) ?_ | refine k_eql rfl rfl (fun hc => ?_) (fun hc => ?_) | refine k_neqT rfl rfl (by omega) ?_ | refine k_neqF rfl rfl (by omega) ?_ | refine k_neq rfl rfl (fun hc => ?_) (fun hc => ?_) | refine k_len rfl rfl ?_ | refine k_ok rfl rfl ?_))
  exact ⟨.inr rfl, e3.trans e4, w, rfl, Ab.Own.ids (xs := shL vs) ow⟩
end Go.Proofs.Ytooafhbjbpaacaa
