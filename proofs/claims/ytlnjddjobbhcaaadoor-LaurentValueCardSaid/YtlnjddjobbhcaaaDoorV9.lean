/- The law LaurentValue. -/
import Derived.Test.YtlnjddjobbhcaaaDoorV8
import Derived.Test.YtlnjddjobbhcaaaDoorQS
import Derived.Test.YtlnjddjobbhcaaaDoorT5
namespace Go.Proofs.YtlnjddjobbhcaaaDoor
open Go.Ab
set_option linter.unusedVariables false
set_option linter.unusedSimpArgs false
set_option maxRecDepth 20000
set_option maxHeartbeats 16000000
attribute [local irreducible] wOps wA wSeq wBlk wRound wRoundI wOpsD wOpsS

/-- The coefficients' sum, each times what f says of its exponent. -/
def sX (f : Int → Int) (low : Int) (xs : List Int) : Nat → Int
  | 0 => 0
  | i + 1 => sX f low xs i + xs.getD i 0 * f (low + i)
theorem ofN_S (f : Int → Int) {low : Int} {xs : List Int} : ∀ {i : Nat} {r : List Tm}, ofN low xs i = some r → S f r = sX f low xs i ∧ ∀ k, k < i → (xs.getD k 0).natAbs ≤ cM
  | 0, r, h => by
    simp [ofN] at h; subst h
    exact ⟨rfl, fun k hk => absurd hk (Nat.not_lt_zero _)⟩
  | i + 1, r', h => by
    rw [ofN, Option.bind_eq_some_iff] at h
    obtain ⟨r, h1, h⟩ := h
    obtain ⟨a, b⟩ := ofN_S f h1
    split at h
    · rename_i hz
      cases h
      refine ⟨by rw [sX, ← a, hz]; omega, fun k hk => ?_⟩
      by_cases e : k = i
      · rw [e, hz]; simp [cM]
      · exact b k (by omega)
    · split at h
      · rename_i hz hb
        cases h
        refine ⟨by rw [sX, ← a, S_app]; show S f r + (xs.getD i 0 * f (low + i) + 0) = _; omega, fun k hk => ?_⟩
        by_cases e : k = i
        · rw [e]; exact hb.1
        · exact b k (by omega)
      · cases h
theorem sX_abs {f : Int → Int} (hf : ∀ e, (f e).natAbs ≤ 1) {low : Int} {xs : List Int} {n : Nat} (hb : ∀ k, k < n → (xs.getD k 0).natAbs ≤ cM) : ∀ {i : Nat}, i ≤ n → (sX f low xs i).natAbs ≤ i * cM
  | 0, _ => by simp [sX]
  | i + 1, h => by
    have := sX_abs hf hb (low := low) (i := i) (by omega)
    have h1 := hb i (by omega)
    have h2 : (xs.getD i 0 * f (low + i)).natAbs ≤ cM := by
      rw [Int.natAbs_mul]
      exact Nat.le_trans (Nat.mul_le_mul_left _ (hf _)) (by omega)
    rw [sX, Nat.succ_mul]; omega
theorem ofP_S (f : Int → Int) {low : Int} {xs : List Int} (h : (ofP low xs).big = false) : S f (ofP low xs).ts = sX f low xs xs.length ∧ ∀ k, k < xs.length → (xs.getD k 0).natAbs ≤ cM := by
  unfold ofP at h ⊢
  cases hr : ofN low xs xs.length with
  | none => rw [hr] at h; simp [bigP] at h
  | some r => exact ofN_S f hr
def I8 (h0 : Heap) (low : Int) (s : SV) (xs : List Int) (c e x m n er k l fr : Int) (E : Env) (h : Heap) : Prop := h = h0 ∧ ∃ i : Nat, i ≤ xs.length ∧
  E.keep [0, 1, 2, 3, 4, 12, 13, 14, 15, 16, 17, 18, 19, 20] = [(0, some (.sc (.int .i64 low))), (1, some (.sc s)), (2, some (.sc (.int .i64 c))), (3, some (.sc (.int .i64 e))), (4, some (.sc (.int .i64 x))), (12, some (.sc (.int .i64 m))), (13, some (.sc (.int .i64 n))), (14, some (.sc (.int .i64 er))), (15, some (.sc (.int .i64 k))), (16, some (.sc (.int .i64 l))), (17, some (.sc (.int .i64 fr))), (18, some (.sc (.int .i64 (sX (sgE 1) low xs i)))), (19, some (.sc (.int .i64 (sX (sgE (-1)) low xs i)))), (20, some (.sc (.int .i64 (i : Nat))))]
def R8 (h0 : Heap) (low : Int) (xs : List Int) (c e x m n er k l fr : Int) (ex : Ex) (E : Env) (h : Heap) : Prop := h = h0 ∧ ex = .ex 0 ∧ ∃ a b d f,
  E = [(0, a), (1, b), (2, some (.sc (.int .i64 c))), (3, some (.sc (.int .i64 e))), (4, some (.sc (.int .i64 x))), (12, some (.sc (.int .i64 m))), (13, some (.sc (.int .i64 n))), (14, some (.sc (.int .i64 er))), (15, some (.sc (.int .i64 k))), (16, some (.sc (.int .i64 l))), (17, some (.sc (.int .i64 fr))), (18, some (.sc (.int .i64 (sX (sgE 1) low xs xs.length)))), (19, some (.sc (.int .i64 (sX (sgE (-1)) low xs xs.length)))), (20, d), (64, f)]
theorem round8 (h0 : Heap) (low : Int) (s : SV) (xs : List Int) (c e x m n er k l fr : Int) (hlow : -100 ≤ low ∧ low ≤ 100) (hs : IsInts h0 s xs) (hb : ∀ k, k < xs.length → (xs.getD k 0).natAbs ≤ cM) (hn : xs.length ≤ 20) (E : Env) (h : Heap) (hI : I8 h0 low s xs c e x m n er k l fr E h) :
    wA FT HKt b8L0 (E.keep [0, 1, 2, 3, 4, 12, 13, 14, 15, 16, 17, 18, 19, 20]) h (wRound (I8 h0 low s xs c e x m n er k l fr) (cK [0, 1, 2, 3, 4, 12, 13, 14, 15, 16, 17, 18, 19, 20] xs.length 20) (cK [0, 1, 2, 3, 4, 12, 13, 14, 15, 16, 17, 18, 19, 20] xs.length 20 E h) (R8 h0 low xs c e x m n er k l fr)) := by
  obtain ⟨rfl, i, hi, hE⟩ := hI
  have hm : cK [0, 1, 2, 3, 4, 12, 13, 14, 15, 16, 17, 18, 19, 20] xs.length 20 E h = xs.length - i := by unfold cK; rw [hE]; rfl
  rw [hm, hE]
  have ls := IsSl.len hs
  by_cases hlt : i < xs.length
  · obtain ⟨v, hv⟩ : ∃ v, xs[i]? = some v := ⟨_, List.getElem?_eq_getElem hlt⟩
    have hvd : xs.getD i 0 = v := by rw [List.getD_eq_getElem?_getD, hv]; rfl
    obtain ⟨id, off, cap, rfl, rd⟩ := IsInts.at hs hv
    have h1 := sX_abs (f := sgE 1) (fun e => Nat.le_of_eq (sgE_abs _ _)) (low := low) hb hi
    have h2 := sX_abs (f := sgE (-1)) (fun e => Nat.le_of_eq (sgE_abs _ _)) (low := low) hb hi
    have h3 := hb i hlt
    rw [hvd] at h3
    simp only [cM] at h1 h2 h3
    have e1 : sX (sgE 1) low xs (i + 1) = sX (sgE 1) low xs i + v := by
      rw [sX, hvd]
      have : sgE 1 (low + i) = 1 := by unfold sgE; rw [if_neg (by omega)]
      rw [this]; omega
    have hmod : (low + i).tmod 2 = 0 ↔ (low + i) % 2 = 0 := by
      rw [← Int.dvd_iff_tmod_eq_zero, Int.dvd_iff_emod_eq_zero]
    by_cases hodd : (low + i) % 2 = 0
    · have hz := hmod.2 hodd
      have e2 : sX (sgE (-1)) low xs (i + 1) = sX (sgE (-1)) low xs i + v := by
        rw [sX, hvd]
        have : sgE (-1) (low + i) = 1 := by unfold sgE; rw [if_neg (fun h => h.2 hodd)]
        rw [this]; omega
      generalize sX (sgE 1) low xs i = A at *
      generalize sX (sgE (-1)) low xs i = B at *
      repeat' (first | refine w_seq ?_ | refine w_seqN ?_ | refine w_seqX ?_ | refine w_seqR ?_ | refine w_blk ?_ | refine w_blkN ?_ | refine w_blkX ?_ | refine w_blkR ?_ | refine w_skip ?_ | refine w_ret ?_ | refine w_exit ?_ | refine w_ops ?_ | refine w_opsD ?_ | refine d_one ?_ | refine d_nil ?_ | (refine w_blkY ?_ ?_; rfl) | ((refine i_cond ?_); first | refine w_condT rfl ?_ | refine w_condF rfl ?_) | ((refine i_nil ?_); first | refine d_same ?_ | refine d_ord ?_ | refine d_ext ⟨_, rfl⟩ ?_ | refine d_ext (extA _ _ _) ?_ | refine d_ext (by assumption) ?_ | refine w_end0 ?_ | refine w_end1 rfl ?_ | refine w_end2 rfl rfl ?_ | refine w_end3 rfl rfl rfl ?_ | refine w_end4 rfl rfl rfl rfl ?_ | refine w_end5 rfl rfl rfl rfl rfl ?_ | refine w_end6 rfl rfl rfl rfl rfl rfl ?_ | refine w_end7 rfl rfl rfl rfl rfl rfl rfl ?_ | refine w_end8 rfl rfl rfl rfl rfl rfl rfl rfl ?_ | refine w_end9 rfl rfl rfl rfl rfl rfl rfl rfl rfl ?_ | refine w_end10 rfl rfl rfl rfl rfl rfl rfl rfl rfl rfl ?_ | refine w_end11 rfl rfl rfl rfl rfl rfl rfl rfl rfl rfl rfl ?_ | refine w_end12 rfl rfl rfl rfl rfl rfl rfl rfl rfl rfl rfl rfl ?_ | refine w_end13 rfl rfl rfl rfl rfl rfl rfl rfl rfl rfl rfl rfl rfl ?_ | refine w_end14 rfl rfl rfl rfl rfl rfl rfl rfl rfl rfl rfl rfl rfl rfl ?_ | refine w_end15 rfl rfl rfl rfl rfl rfl rfl rfl rfl rfl rfl rfl rfl rfl rfl ?_ | refine w_end16 rfl rfl rfl rfl rfl rfl rfl rfl rfl rfl rfl rfl rfl rfl rfl rfl ?_) | ((refine i_cons ?_); first | refine k_len rfl ls ?_ | refine k_idxA (esz := 1) rfl rfl (by omega) ?_ | refine k_ld rfl rd ?_ | (refine k_tmod rfl rfl (by omega) ?_; rw [hz]) | refine k_skip rfl ?_ | refine k_skipU rfl ?_ | refine k_want rfl ?_ | refine k_mv rfl ?_ | refine k_pickT rfl rfl ?_ | refine k_pickF rfl rfl ?_ | refine k_notT rfl ?_ | refine k_notF rfl ?_ | refine k_add rfl rfl (by omega) ?_ | refine k_sub rfl rfl (by omega) ?_ | refine k_mul rfl rfl (by omega) ?_ | refine k_neg rfl (by omega) ?_ | refine k_quo rfl rfl (by omega) ?_ | refine k_rem rfl rfl (by omega) ?_ | refine k_conv rfl (by omega) ?_ | refine k_max rfl rfl ?_ | refine k_min rfl rfl ?_ | refine k_lssT rfl rfl (by omega) ?_ | refine k_lssF rfl rfl (by omega) ?_ | refine k_lss rfl rfl (fun hc => ?_) (fun hc => ?_) | refine k_leqT rfl rfl (by omega) ?_ | refine k_leqF rfl rfl (by omega) ?_ | refine k_leq rfl rfl (fun hc => ?_) (fun hc => ?_) | refine k_gtrT rfl rfl (by omega) ?_ | refine k_gtrF rfl rfl (by omega) ?_ | refine k_gtr rfl rfl (fun hc => ?_) (fun hc => ?_) | refine k_geqT rfl rfl (by omega) ?_ | refine k_geqF rfl rfl (by omega) ?_ | refine k_geq rfl rfl (fun hc => ?_) (fun hc => ?_) | refine k_eqlT rfl rfl (by omega) ?_ | refine k_eqlF rfl rfl (by omega) ?_ | refine k_eql rfl rfl (fun hc => ?_) (fun hc => ?_) | refine k_neqT rfl rfl (by omega) ?_ | refine k_neqF rfl rfl (by omega) ?_ | refine k_neq rfl rfl (fun hc => ?_) (fun hc => ?_) | refine k_len rfl rfl ?_ | refine k_ok rfl rfl ?_))
      rw [← e1, ← e2]
      exact w_roundN ⟨rfl, i + 1, by omega, rfl⟩ (by simp [cK, Env.keep, Env.get]; omega)
    · have hz : (low + i).tmod 2 ≠ 0 := fun h => hodd (hmod.1 h)
      have e2 : sX (sgE (-1)) low xs (i + 1) = sX (sgE (-1)) low xs i - v := by
        rw [sX, hvd]
        have : sgE (-1) (low + i) = -1 := by unfold sgE; rw [if_pos ⟨by omega, hodd⟩]
        rw [this]; omega
      generalize sX (sgE 1) low xs i = A at *
      generalize sX (sgE (-1)) low xs i = B at *
      generalize hM : (low + i).tmod 2 = M at *
      repeat' (first | refine w_seq ?_ | refine w_seqN ?_ | refine w_seqX ?_ | refine w_seqR ?_ | refine w_blk ?_ | refine w_blkN ?_ | refine w_blkX ?_ | refine w_blkR ?_ | refine w_skip ?_ | refine w_ret ?_ | refine w_exit ?_ | refine w_ops ?_ | refine w_opsD ?_ | refine d_one ?_ | refine d_nil ?_ | (refine w_blkY ?_ ?_; rfl) | ((refine i_cond ?_); first | refine w_condT rfl ?_ | refine w_condF rfl ?_) | ((refine i_nil ?_); first | refine d_same ?_ | refine d_ord ?_ | refine d_ext ⟨_, rfl⟩ ?_ | refine d_ext (extA _ _ _) ?_ | refine d_ext (by assumption) ?_ | refine w_end0 ?_ | refine w_end1 rfl ?_ | refine w_end2 rfl rfl ?_ | refine w_end3 rfl rfl rfl ?_ | refine w_end4 rfl rfl rfl rfl ?_ | refine w_end5 rfl rfl rfl rfl rfl ?_ | refine w_end6 rfl rfl rfl rfl rfl rfl ?_ | refine w_end7 rfl rfl rfl rfl rfl rfl rfl ?_ | refine w_end8 rfl rfl rfl rfl rfl rfl rfl rfl ?_ | refine w_end9 rfl rfl rfl rfl rfl rfl rfl rfl rfl ?_ | refine w_end10 rfl rfl rfl rfl rfl rfl rfl rfl rfl rfl ?_ | refine w_end11 rfl rfl rfl rfl rfl rfl rfl rfl rfl rfl rfl ?_ | refine w_end12 rfl rfl rfl rfl rfl rfl rfl rfl rfl rfl rfl rfl ?_ | refine w_end13 rfl rfl rfl rfl rfl rfl rfl rfl rfl rfl rfl rfl rfl ?_ | refine w_end14 rfl rfl rfl rfl rfl rfl rfl rfl rfl rfl rfl rfl rfl rfl ?_ | refine w_end15 rfl rfl rfl rfl rfl rfl rfl rfl rfl rfl rfl rfl rfl rfl rfl ?_ | refine w_end16 rfl rfl rfl rfl rfl rfl rfl rfl rfl rfl rfl rfl rfl rfl rfl rfl ?_) | ((refine i_cons ?_); first | refine k_len rfl ls ?_ | refine k_idxA (esz := 1) rfl rfl (by omega) ?_ | refine k_ld rfl rd ?_ | (refine k_tmod rfl rfl (by omega) ?_; rw [hM]) | refine k_skip rfl ?_ | refine k_skipU rfl ?_ | refine k_want rfl ?_ | refine k_mv rfl ?_ | refine k_pickT rfl rfl ?_ | refine k_pickF rfl rfl ?_ | refine k_notT rfl ?_ | refine k_notF rfl ?_ | refine k_add rfl rfl (by omega) ?_ | refine k_sub rfl rfl (by omega) ?_ | refine k_mul rfl rfl (by omega) ?_ | refine k_neg rfl (by omega) ?_ | refine k_quo rfl rfl (by omega) ?_ | refine k_rem rfl rfl (by omega) ?_ | refine k_conv rfl (by omega) ?_ | refine k_max rfl rfl ?_ | refine k_min rfl rfl ?_ | refine k_lssT rfl rfl (by omega) ?_ | refine k_lssF rfl rfl (by omega) ?_ | refine k_lss rfl rfl (fun hc => ?_) (fun hc => ?_) | refine k_leqT rfl rfl (by omega) ?_ | refine k_leqF rfl rfl (by omega) ?_ | refine k_leq rfl rfl (fun hc => ?_) (fun hc => ?_) | refine k_gtrT rfl rfl (by omega) ?_ | refine k_gtrF rfl rfl (by omega) ?_ | refine k_gtr rfl rfl (fun hc => ?_) (fun hc => ?_) | refine k_geqT rfl rfl (by omega) ?_ | refine k_geqF rfl rfl (by omega) ?_ | refine k_geq rfl rfl (fun hc => ?_) (fun hc => ?_) | refine k_eqlT rfl rfl (by omega) ?_ | refine k_eqlF rfl rfl (by omega) ?_ | refine k_eql rfl rfl (fun hc => ?_) (fun hc => ?_) | refine k_neqT rfl rfl (by omega) ?_ | refine k_neqF rfl rfl (by omega) ?_ | refine k_neq rfl rfl (fun hc => ?_) (fun hc => ?_) | refine k_len rfl rfl ?_ | refine k_ok rfl rfl ?_))
      rw [← e1, ← e2]
      exact w_roundN ⟨rfl, i + 1, by omega, rfl⟩ (by simp [cK, Env.keep, Env.get]; omega)
  · have : i = xs.length := by omega
    subst this
    repeat' (first | refine w_seq ?_ | refine w_seqN ?_ | refine w_seqX ?_ | refine w_seqR ?_ | refine w_blk ?_ | refine w_blkN ?_ | refine w_blkX ?_ | refine w_blkR ?_ | refine w_skip ?_ | refine w_ret ?_ | refine w_exit ?_ | refine w_ops ?_ | refine w_opsD ?_ | refine d_one ?_ | refine d_nil ?_ | (refine w_blkY ?_ ?_; rfl) | ((refine i_cond ?_); first | refine w_condT rfl ?_ | refine w_condF rfl ?_) | ((refine i_nil ?_); first | refine d_same ?_ | refine d_ord ?_ | refine d_ext ⟨_, rfl⟩ ?_ | refine d_ext (extA _ _ _) ?_ | refine d_ext (by assumption) ?_ | refine w_end0 ?_ | refine w_end1 rfl ?_ | refine w_end2 rfl rfl ?_ | refine w_end3 rfl rfl rfl ?_ | refine w_end4 rfl rfl rfl rfl ?_ | refine w_end5 rfl rfl rfl rfl rfl ?_ | refine w_end6 rfl rfl rfl rfl rfl rfl ?_ | refine w_end7 rfl rfl rfl rfl rfl rfl rfl ?_ | refine w_end8 rfl rfl rfl rfl rfl rfl rfl rfl ?_ | refine w_end9 rfl rfl rfl rfl rfl rfl rfl rfl rfl ?_ | refine w_end10 rfl rfl rfl rfl rfl rfl rfl rfl rfl rfl ?_ | refine w_end11 rfl rfl rfl rfl rfl rfl rfl rfl rfl rfl rfl ?_ | refine w_end12 rfl rfl rfl rfl rfl rfl rfl rfl rfl rfl rfl rfl ?_ | refine w_end13 rfl rfl rfl rfl rfl rfl rfl rfl rfl rfl rfl rfl rfl ?_ | refine w_end14 rfl rfl rfl rfl rfl rfl rfl rfl rfl rfl rfl rfl rfl rfl ?_ | refine w_end15 rfl rfl rfl rfl rfl rfl rfl rfl rfl rfl rfl rfl rfl rfl rfl ?_ | refine w_end16 rfl rfl rfl rfl rfl rfl rfl rfl rfl rfl rfl rfl rfl rfl rfl rfl ?_) | ((refine i_cons ?_); first | refine k_len rfl ls ?_ | refine k_skip rfl ?_ | refine k_skipU rfl ?_ | refine k_want rfl ?_ | refine k_mv rfl ?_ | refine k_pickT rfl rfl ?_ | refine k_pickF rfl rfl ?_ | refine k_notT rfl ?_ | refine k_notF rfl ?_ | refine k_add rfl rfl (by omega) ?_ | refine k_sub rfl rfl (by omega) ?_ | refine k_mul rfl rfl (by omega) ?_ | refine k_neg rfl (by omega) ?_ | refine k_quo rfl rfl (by omega) ?_ | refine k_rem rfl rfl (by omega) ?_ | refine k_conv rfl (by omega) ?_ | refine k_max rfl rfl ?_ | refine k_min rfl rfl ?_ | refine k_lssT rfl rfl (by omega) ?_ | refine k_lssF rfl rfl (by omega) ?_ | refine k_lss rfl rfl (fun hc => ?_) (fun hc => ?_) | refine k_leqT rfl rfl (by omega) ?_ | refine k_leqF rfl rfl (by omega) ?_ | refine k_leq rfl rfl (fun hc => ?_) (fun hc => ?_) | refine k_gtrT rfl rfl (by omega) ?_ | refine k_gtrF rfl rfl (by omega) ?_ | refine k_gtr rfl rfl (fun hc => ?_) (fun hc => ?_) | refine k_geqT rfl rfl (by omega) ?_ | refine k_geqF rfl rfl (by omega) ?_ | refine k_geq rfl rfl (fun hc => ?_) (fun hc => ?_) | refine k_eqlT rfl rfl (by omega) ?_ | refine k_eqlF rfl rfl (by omega) ?_ | refine k_eql rfl rfl (fun hc => ?_) (fun hc => ?_) | refine k_neqT rfl rfl (by omega) ?_ | refine k_neqF rfl rfl (by omega) ?_ | refine k_neq rfl rfl (fun hc => ?_) (fun hc => ?_) | refine k_len rfl rfl ?_ | refine k_ok rfl rfl ?_))
    exact w_roundX ⟨rfl, rfl, _, _, _, _, rfl⟩
def I8p (h0 : Heap) (c x : Int) (e : Nat) (E : Env) (h : Heap) : Prop := h = h0 ∧ ∃ i : Nat, i ≤ e ∧
  E.keep [2, 3, 4, 21, 174, 175] = [(2, some (.sc (.int .i64 c))), (3, some (.sc (.int .i64 (e : Nat)))), (4, some (.sc (.int .i64 x))), (21, some (.sc (.int .i64 (x ^ i)))), (174, some (.sc (.int .i64 (e : Nat)))), (175, some (.sc (.int .i64 (i : Nat))))]
def R8p (h0 : Heap) (c x : Int) (e : Nat) (ex : Ex) (E : Env) (h : Heap) : Prop := h = h0 ∧ ex = .ex 2 ∧ ∃ a b d,
  E = [(2, some (.sc (.int .i64 c))), (3, some (.sc (.int .i64 (e : Nat)))), (4, some (.sc (.int .i64 x))), (21, some (.sc (.int .i64 (x ^ e)))), (174, a), (175, b), (176, d)]
theorem pow_small {x : Int} (hx : 2 ≤ x ∧ x ≤ 20) {i : Nat} (hi : i ≤ 6) : 1 ≤ x ^ i ∧ x ^ i ≤ 64000000 := by
  obtain ⟨n, rfl⟩ : ∃ n : Nat, x = n := ⟨x.toNat, by omega⟩
  have h1 : 1 ≤ n ^ i := Nat.pow_pos (by omega)
  have h2 : n ^ i ≤ n ^ 6 := Nat.pow_le_pow_right (by omega) hi
  have h3 : n ^ 6 ≤ 20 ^ 6 := Nat.pow_le_pow_left (by omega) 6
  have h4 : ((n : Int)) ^ i = ((n ^ i : Nat) : Int) := (Int.natCast_pow n i).symm
  rw [h4]
  generalize n ^ i = A at *
  omega
theorem round8p (h0 : Heap) (c x : Int) (e : Nat) (hx : 2 ≤ x ∧ x ≤ 20) (he : e ≤ 6) (E : Env) (h : Heap) (hI : I8p h0 c x e E h) :
    wA FT HKt b8L1 (E.keep [2, 3, 4, 21, 174, 175]) h (wRound (I8p h0 c x e) (cK [2, 3, 4, 21, 174, 175] e 175) (cK [2, 3, 4, 21, 174, 175] e 175 E h) (R8p h0 c x e)) := by
  obtain ⟨rfl, i, hi, hE⟩ := hI
  have hm : cK [2, 3, 4, 21, 174, 175] e 175 E h = e - i := by unfold cK; rw [hE]; rfl
  rw [hm, hE]
  by_cases hlt : i < e
  · have h1 := pow_small hx (i := i) (by omega)
    have h2 := pow_small hx (i := i + 1) (by omega)
    have e1 : x ^ i * x = x ^ (i + 1) := (Int.pow_succ _ _).symm
    rw [← e1] at h2
    have h2' : -9223372036854775808 ≤ x ^ i * x ∧ x ^ i * x ≤ 9223372036854775807 := by generalize x ^ i * x = B at *; omega
    repeat' (first | refine w_seq ?_ | refine w_seqN ?_ | refine w_seqX ?_ | refine w_seqR ?_ | refine w_blk ?_ | refine w_blkN ?_ | refine w_blkX ?_ | refine w_blkR ?_ | refine w_skip ?_ | refine w_ret ?_ | refine w_exit ?_ | refine w_ops ?_ | refine w_opsD ?_ | refine d_one ?_ | refine d_nil ?_ | (refine w_blkY ?_ ?_; rfl) | ((refine i_cond ?_); first | refine w_condT rfl ?_ | refine w_condF rfl ?_) | ((refine i_nil ?_); first | refine d_same ?_ | refine d_ord ?_ | refine d_ext ⟨_, rfl⟩ ?_ | refine d_ext (extA _ _ _) ?_ | refine d_ext (by assumption) ?_ | refine w_end0 ?_ | refine w_end1 rfl ?_ | refine w_end2 rfl rfl ?_ | refine w_end3 rfl rfl rfl ?_ | refine w_end4 rfl rfl rfl rfl ?_ | refine w_end5 rfl rfl rfl rfl rfl ?_ | refine w_end6 rfl rfl rfl rfl rfl rfl ?_ | refine w_end7 rfl rfl rfl rfl rfl rfl rfl ?_ | refine w_end8 rfl rfl rfl rfl rfl rfl rfl rfl ?_ | refine w_end9 rfl rfl rfl rfl rfl rfl rfl rfl rfl ?_ | refine w_end10 rfl rfl rfl rfl rfl rfl rfl rfl rfl rfl ?_ | refine w_end11 rfl rfl rfl rfl rfl rfl rfl rfl rfl rfl rfl ?_ | refine w_end12 rfl rfl rfl rfl rfl rfl rfl rfl rfl rfl rfl rfl ?_ | refine w_end13 rfl rfl rfl rfl rfl rfl rfl rfl rfl rfl rfl rfl rfl ?_ | refine w_end14 rfl rfl rfl rfl rfl rfl rfl rfl rfl rfl rfl rfl rfl rfl ?_ | refine w_end15 rfl rfl rfl rfl rfl rfl rfl rfl rfl rfl rfl rfl rfl rfl rfl ?_ | refine w_end16 rfl rfl rfl rfl rfl rfl rfl rfl rfl rfl rfl rfl rfl rfl rfl rfl ?_) | ((refine i_cons ?_); first | (refine k_mul rfl rfl h2' ?_; rw [e1]) | refine k_skip rfl ?_ | refine k_skipU rfl ?_ | refine k_want rfl ?_ | refine k_mv rfl ?_ | refine k_pickT rfl rfl ?_ | refine k_pickF rfl rfl ?_ | refine k_notT rfl ?_ | refine k_notF rfl ?_ | refine k_add rfl rfl (by omega) ?_ | refine k_sub rfl rfl (by omega) ?_ | refine k_mul rfl rfl (by omega) ?_ | refine k_neg rfl (by omega) ?_ | refine k_quo rfl rfl (by omega) ?_ | refine k_rem rfl rfl (by omega) ?_ | refine k_conv rfl (by omega) ?_ | refine k_max rfl rfl ?_ | refine k_min rfl rfl ?_ | refine k_lssT rfl rfl (by omega) ?_ | refine k_lssF rfl rfl (by omega) ?_ | refine k_lss rfl rfl (fun hc => ?_) (fun hc => ?_) | refine k_leqT rfl rfl (by omega) ?_ | refine k_leqF rfl rfl (by omega) ?_ | refine k_leq rfl rfl (fun hc => ?_) (fun hc => ?_) | refine k_gtrT rfl rfl (by omega) ?_ | refine k_gtrF rfl rfl (by omega) ?_ | refine k_gtr rfl rfl (fun hc => ?_) (fun hc => ?_) | refine k_geqT rfl rfl (by omega) ?_ | refine k_geqF rfl rfl (by omega) ?_ | refine k_geq rfl rfl (fun hc => ?_) (fun hc => ?_) | refine k_eqlT rfl rfl (by omega) ?_ | refine k_eqlF rfl rfl (by omega) ?_ | refine k_eql rfl rfl (fun hc => ?_) (fun hc => ?_) | refine k_neqT rfl rfl (by omega) ?_ | refine k_neqF rfl rfl (by omega) ?_ | refine k_neq rfl rfl (fun hc => ?_) (fun hc => ?_) | refine k_len rfl rfl ?_ | refine k_ok rfl rfl ?_))
    exact w_roundN ⟨rfl, i + 1, by omega, rfl⟩ (by simp [cK, Env.keep, Env.get]; omega)
  · have : i = e := by omega
    subst this
    repeat' (first | refine w_seq ?_ | refine w_seqN ?_ | refine w_seqX ?_ | refine w_seqR ?_ | refine w_blk ?_ | refine w_blkN ?_ | refine w_blkX ?_ | refine w_blkR ?_ | refine w_skip ?_ | refine w_ret ?_ | refine w_exit ?_ | refine w_ops ?_ | refine w_opsD ?_ | refine d_one ?_ | refine d_nil ?_ | (refine w_blkY ?_ ?_; rfl) | ((refine i_cond ?_); first | refine w_condT rfl ?_ | refine w_condF rfl ?_) | ((refine i_nil ?_); first | refine d_same ?_ | refine d_ord ?_ | refine d_ext ⟨_, rfl⟩ ?_ | refine d_ext (extA _ _ _) ?_ | refine d_ext (by assumption) ?_ | refine w_end0 ?_ | refine w_end1 rfl ?_ | refine w_end2 rfl rfl ?_ | refine w_end3 rfl rfl rfl ?_ | refine w_end4 rfl rfl rfl rfl ?_ | refine w_end5 rfl rfl rfl rfl rfl ?_ | refine w_end6 rfl rfl rfl rfl rfl rfl ?_ | refine w_end7 rfl rfl rfl rfl rfl rfl rfl ?_ | refine w_end8 rfl rfl rfl rfl rfl rfl rfl rfl ?_ | refine w_end9 rfl rfl rfl rfl rfl rfl rfl rfl rfl ?_ | refine w_end10 rfl rfl rfl rfl rfl rfl rfl rfl rfl rfl ?_ | refine w_end11 rfl rfl rfl rfl rfl rfl rfl rfl rfl rfl rfl ?_ | refine w_end12 rfl rfl rfl rfl rfl rfl rfl rfl rfl rfl rfl rfl ?_ | refine w_end13 rfl rfl rfl rfl rfl rfl rfl rfl rfl rfl rfl rfl rfl ?_ | refine w_end14 rfl rfl rfl rfl rfl rfl rfl rfl rfl rfl rfl rfl rfl rfl ?_ | refine w_end15 rfl rfl rfl rfl rfl rfl rfl rfl rfl rfl rfl rfl rfl rfl rfl ?_ | refine w_end16 rfl rfl rfl rfl rfl rfl rfl rfl rfl rfl rfl rfl rfl rfl rfl rfl ?_) | ((refine i_cons ?_); first | refine k_skip rfl ?_ | refine k_skipU rfl ?_ | refine k_want rfl ?_ | refine k_mv rfl ?_ | refine k_pickT rfl rfl ?_ | refine k_pickF rfl rfl ?_ | refine k_notT rfl ?_ | refine k_notF rfl ?_ | refine k_add rfl rfl (by omega) ?_ | refine k_sub rfl rfl (by omega) ?_ | refine k_mul rfl rfl (by omega) ?_ | refine k_neg rfl (by omega) ?_ | refine k_quo rfl rfl (by omega) ?_ | refine k_rem rfl rfl (by omega) ?_ | refine k_conv rfl (by omega) ?_ | refine k_max rfl rfl ?_ | refine k_min rfl rfl ?_ | refine k_lssT rfl rfl (by omega) ?_ | refine k_lssF rfl rfl (by omega) ?_ | refine k_lss rfl rfl (fun hc => ?_) (fun hc => ?_) | refine k_leqT rfl rfl (by omega) ?_ | refine k_leqF rfl rfl (by omega) ?_ | refine k_leq rfl rfl (fun hc => ?_) (fun hc => ?_) | refine k_gtrT rfl rfl (by omega) ?_ | refine k_gtrF rfl rfl (by omega) ?_ | refine k_gtr rfl rfl (fun hc => ?_) (fun hc => ?_) | refine k_geqT rfl rfl (by omega) ?_ | refine k_geqF rfl rfl (by omega) ?_ | refine k_geq rfl rfl (fun hc => ?_) (fun hc => ?_) | refine k_eqlT rfl rfl (by omega) ?_ | refine k_eqlF rfl rfl (by omega) ?_ | refine k_eql rfl rfl (fun hc => ?_) (fun hc => ?_) | refine k_neqT rfl rfl (by omega) ?_ | refine k_neqF rfl rfl (by omega) ?_ | refine k_neq rfl rfl (fun hc => ?_) (fun hc => ?_) | refine k_len rfl rfl ?_ | refine k_ok rfl rfl ?_))
    exact w_roundX ⟨rfl, rfl, _, _, _, rfl⟩
theorem fin1 {x c : Int} {e : Nat} {m : Int} {d : Nat} (f : IsFr x 0 [((e : Int), c)] m d) : d = 1 ∧ m = c * x ^ e := by
  have h1 := f.eq
  have h2 := f.dX
  have h3 := f.d1
  simp at h1 h2
  obtain rfl : d = 1 := by omega
  refine ⟨rfl, ?_⟩
  rw [h1]
  show ((1 : Nat) : Int) * (c * x ^ ((e : Int) - 0).toNat + 0) = _
  rw [show ((e : Int) - 0).toNat = e by omega]; omega
theorem fin2 {x c : Int} {e : Nat} {m : Int} {d : Nat} (hx : 2 ≤ x ∧ x ≤ 20) (hc : c.natAbs ≤ 1000) (he : e ≤ 6) (f : IsFr x (-(e : Int)) [(-(e : Int), c)] m d) : m * x ^ e = c * d ∧ Nat.gcd m.natAbs d = 1 ∧ 1 ≤ d ∧ d ≤ 64000000 ∧ m.natAbs ≤ 1000 := by
  have h1 := f.eq
  have h2 := f.dX
  have hb := f.bound (by omega)
  rw [show (0 - -(e : Int)).toNat = e by omega] at h1 h2
  have e1 : pv x (-(e : Int)) [(-(e : Int), c)] = c := by
    show c * x ^ (-(e : Int) - -(e : Int)).toNat + 0 = c
    rw [show (-(e : Int) - -(e : Int)).toNat = 0 by omega]; simp
  have e2 : pa x.natAbs (-(e : Int)) [(-(e : Int), c)] = c.natAbs := by
    show c.natAbs * x.natAbs ^ (-(e : Int) - -(e : Int)).toNat + 0 = c.natAbs
    rw [show (-(e : Int) - -(e : Int)).toNat = 0 by omega]; simp
  rw [e1] at h1
  rw [e2] at hb
  have h3 := pow_small hx he
  have h4 : ((x.natAbs ^ e : Nat) : Int) = x ^ e := by
    rw [Int.natCast_pow, show (x.natAbs : Int) = x by omega]
  refine ⟨by rw [h1, Int.mul_comm], f.cop, f.d1, by omega, by omega⟩
theorem can1 (e c : Int) (hc : c ≠ 0) : Can [(e, c)] := ⟨by simp, by simp [hc]⟩
theorem call8 (h0 : Heap) (low : Int) (hlow : -9223372036854775808 ≤ low ∧ low ≤ 9223372036854775807) (s : SV) (xs : List Int) (hx : IsInts h0 s xs) (c : Int) (hc : -9223372036854775808 ≤ c ∧ c ≤ 9223372036854775807) (e : Int) (he : -9223372036854775808 ≤ e ∧ e ≤ 9223372036854775807) (x : Int) (hxr : -9223372036854775808 ≤ x ∧ x ≤ 9223372036854775807) :
    ∃ v h', Cal FT HKt 8 [.sc (.int .i64 low), .sc s, .sc (.int .i64 c), .sc (.int .i64 e), .sc (.int .i64 x)] h0 v h' ∧ v = .sc (.bool true) := by
  refine Cal.of (F := a8) rfl rfl rfl ?_
  have aw := fun H => awake_callT H
  have k11 := fun H (e : Ext h0 H) => call11 H low s xs (IsSl.ext hx e)
  by_cases hs1 : smallP low xs
  case neg =>
    rw [if_neg hs1] at k11
    repeat' (first | refine w_seq ?_ | refine w_seqN ?_ | refine w_seqX ?_ | refine w_seqR ?_ | refine w_blk ?_ | refine w_blkN ?_ | refine w_blkX ?_ | refine w_blkR ?_ | refine w_skip ?_ | refine w_ret ?_ | refine w_exit ?_ | refine w_ops ?_ | refine w_opsD ?_ | refine d_one ?_ | refine d_nil ?_ | (refine w_blkY ?_ ?_; rfl) | ((refine i_cond ?_); first | refine w_condT rfl ?_ | refine w_condF rfl ?_) | ((refine i_nil ?_); first | refine d_same ?_ | refine d_ord ?_ | refine d_ext ⟨_, rfl⟩ ?_ | refine d_ext (extA _ _ _) ?_ | refine d_ext (by assumption) ?_ | refine w_end0 ?_ | refine w_end1 rfl ?_ | refine w_end2 rfl rfl ?_ | refine w_end3 rfl rfl rfl ?_ | refine w_end4 rfl rfl rfl rfl ?_ | refine w_end5 rfl rfl rfl rfl rfl ?_ | refine w_end6 rfl rfl rfl rfl rfl rfl ?_ | refine w_end7 rfl rfl rfl rfl rfl rfl rfl ?_ | refine w_end8 rfl rfl rfl rfl rfl rfl rfl rfl ?_ | refine w_end9 rfl rfl rfl rfl rfl rfl rfl rfl rfl ?_ | refine w_end10 rfl rfl rfl rfl rfl rfl rfl rfl rfl rfl ?_ | refine w_end11 rfl rfl rfl rfl rfl rfl rfl rfl rfl rfl rfl ?_ | refine w_end12 rfl rfl rfl rfl rfl rfl rfl rfl rfl rfl rfl rfl ?_ | refine w_end13 rfl rfl rfl rfl rfl rfl rfl rfl rfl rfl rfl rfl rfl ?_ | refine w_end14 rfl rfl rfl rfl rfl rfl rfl rfl rfl rfl rfl rfl rfl rfl ?_ | refine w_end15 rfl rfl rfl rfl rfl rfl rfl rfl rfl rfl rfl rfl rfl rfl rfl ?_ | refine w_end16 rfl rfl rfl rfl rfl rfl rfl rfl rfl rfl rfl rfl rfl rfl rfl rfl ?_) | ((refine i_cons ?_); first | (refine k_call rfl (aw _) ?_; rintro v _ ⟨rfl, rfl⟩) | (refine k_call rfl (k11 _ (Ext.refl _)) ?_; rintro v _ ⟨rfl, rfl⟩) | refine k_skip rfl ?_ | refine k_skipU rfl ?_ | refine k_want rfl ?_ | refine k_mv rfl ?_ | refine k_pickT rfl rfl ?_ | refine k_pickF rfl rfl ?_ | refine k_notT rfl ?_ | refine k_notF rfl ?_ | refine k_add rfl rfl (by omega) ?_ | refine k_sub rfl rfl (by omega) ?_ | refine k_mul rfl rfl (by omega) ?_ | refine k_neg rfl (by omega) ?_ | refine k_quo rfl rfl (by omega) ?_ | refine k_rem rfl rfl (by omega) ?_ | refine k_conv rfl (by omega) ?_ | refine k_max rfl rfl ?_ | refine k_min rfl rfl ?_ | refine k_lssT rfl rfl (by omega) ?_ | refine k_lssF rfl rfl (by omega) ?_ | refine k_lss rfl rfl (fun hc => ?_) (fun hc => ?_) | refine k_leqT rfl rfl (by omega) ?_ | refine k_leqF rfl rfl (by omega) ?_ | refine k_leq rfl rfl (fun hc => ?_) (fun hc => ?_) | refine k_gtrT rfl rfl (by omega) ?_ | refine k_gtrF rfl rfl (by omega) ?_ | refine k_gtr rfl rfl (fun hc => ?_) (fun hc => ?_) | refine k_geqT rfl rfl (by omega) ?_ | refine k_geqF rfl rfl (by omega) ?_ | refine k_geq rfl rfl (fun hc => ?_) (fun hc => ?_) | refine k_eqlT rfl rfl (by omega) ?_ | refine k_eqlF rfl rfl (by omega) ?_ | refine k_eql rfl rfl (fun hc => ?_) (fun hc => ?_) | refine k_neqT rfl rfl (by omega) ?_ | refine k_neqF rfl rfl (by omega) ?_ | refine k_neq rfl rfl (fun hc => ?_) (fun hc => ?_) | refine k_len rfl rfl ?_ | refine k_ok rfl rfl ?_))
    exact ⟨.inr rfl, rfl⟩
  rw [if_pos hs1] at k11
  obtain ⟨a1, a2, a3⟩ := small_ofP hs1
  have k12 := fun H (e : Ext h0 H) => call12 H low a2 s xs a1 (IsSl.ext hx e) a3
  have kp := ofP_ok low xs
  have pS := @ofP_S
  have pS1 := fun h => (ofP_S (sgE 1) (low := low) (xs := xs) h)
  have pS2 := fun h => (ofP_S (sgE (-1)) (low := low) (xs := xs) h).1
  clear pS
  generalize ofP low xs = P at *
  obtain ⟨pb, ps⟩ := P
  by_cases hpb : pb = true
  · subst hpb
    have k32 := fun H sp x => call32b H sp x
    repeat' (first | refine w_seq ?_ | refine w_seqN ?_ | refine w_seqX ?_ | refine w_seqR ?_ | refine w_blk ?_ | refine w_blkN ?_ | refine w_blkX ?_ | refine w_blkR ?_ | refine w_skip ?_ | refine w_ret ?_ | refine w_exit ?_ | refine w_ops ?_ | refine w_opsD ?_ | refine d_one ?_ | refine d_nil ?_ | (refine w_blkY ?_ ?_; rfl) | ((refine i_cond ?_); first | refine w_condT rfl ?_ | refine w_condF rfl ?_) | ((refine i_nil ?_); first | refine d_same ?_ | refine d_ord ?_ | refine d_ext ⟨_, rfl⟩ ?_ | refine d_ext (extA _ _ _) ?_ | refine d_ext (by assumption) ?_ | refine w_end0 ?_ | refine w_end1 rfl ?_ | refine w_end2 rfl rfl ?_ | refine w_end3 rfl rfl rfl ?_ | refine w_end4 rfl rfl rfl rfl ?_ | refine w_end5 rfl rfl rfl rfl rfl ?_ | refine w_end6 rfl rfl rfl rfl rfl rfl ?_ | refine w_end7 rfl rfl rfl rfl rfl rfl rfl ?_ | refine w_end8 rfl rfl rfl rfl rfl rfl rfl rfl ?_ | refine w_end9 rfl rfl rfl rfl rfl rfl rfl rfl rfl ?_ | refine w_end10 rfl rfl rfl rfl rfl rfl rfl rfl rfl rfl ?_ | refine w_end11 rfl rfl rfl rfl rfl rfl rfl rfl rfl rfl rfl ?_ | refine w_end12 rfl rfl rfl rfl rfl rfl rfl rfl rfl rfl rfl rfl ?_ | refine w_end13 rfl rfl rfl rfl rfl rfl rfl rfl rfl rfl rfl rfl rfl ?_ | refine w_end14 rfl rfl rfl rfl rfl rfl rfl rfl rfl rfl rfl rfl rfl rfl ?_ | refine w_end15 rfl rfl rfl rfl rfl rfl rfl rfl rfl rfl rfl rfl rfl rfl rfl ?_ | refine w_end16 rfl rfl rfl rfl rfl rfl rfl rfl rfl rfl rfl rfl rfl rfl rfl rfl ?_) | ((refine i_cons ?_); first | (refine k_call rfl (aw _) ?_; rintro v _ ⟨rfl, rfl⟩) | (refine k_call rfl (k11 _ (Ext.refl _)) ?_; rintro v _ ⟨rfl, rfl⟩) | (refine k_call rfl (k12 _ (Ext.refl _)) ?_; rintro v h1 ⟨e1, sp, rfl, ip⟩) | (have z := e1; refine k_newst rfl ?_; intro h2 e2 c11) | refine k_ldC rfl c11 ?_ | (refine k_call rfl (k32 h2 _ _) ?_; rintro v h3 ⟨e3, rfl⟩; have c11_3 := c11.ext e3) | refine k_ldC rfl c11_3 ?_ | (refine k_call rfl (k32 h3 _ _) ?_; rintro v h4 ⟨e4, rfl⟩; have c11_4 := c11_3.ext e4) | refine k_ldC rfl c11_4 ?_ | (refine k_call rfl (call14 h4 _ _) ?_; rintro v h5 ⟨e5, rfl⟩) | refine k_skip rfl ?_ | refine k_skipU rfl ?_ | refine k_want rfl ?_ | refine k_mv rfl ?_ | refine k_pickT rfl rfl ?_ | refine k_pickF rfl rfl ?_ | refine k_notT rfl ?_ | refine k_notF rfl ?_ | refine k_add rfl rfl (by omega) ?_ | refine k_sub rfl rfl (by omega) ?_ | refine k_mul rfl rfl (by omega) ?_ | refine k_neg rfl (by omega) ?_ | refine k_quo rfl rfl (by omega) ?_ | refine k_rem rfl rfl (by omega) ?_ | refine k_conv rfl (by omega) ?_ | refine k_max rfl rfl ?_ | refine k_min rfl rfl ?_ | refine k_lssT rfl rfl (by omega) ?_ | refine k_lssF rfl rfl (by omega) ?_ | refine k_lss rfl rfl (fun hc => ?_) (fun hc => ?_) | refine k_leqT rfl rfl (by omega) ?_ | refine k_leqF rfl rfl (by omega) ?_ | refine k_leq rfl rfl (fun hc => ?_) (fun hc => ?_) | refine k_gtrT rfl rfl (by omega) ?_ | refine k_gtrF rfl rfl (by omega) ?_ | refine k_gtr rfl rfl (fun hc => ?_) (fun hc => ?_) | refine k_geqT rfl rfl (by omega) ?_ | refine k_geqF rfl rfl (by omega) ?_ | refine k_geq rfl rfl (fun hc => ?_) (fun hc => ?_) | refine k_eqlT rfl rfl (by omega) ?_ | refine k_eqlF rfl rfl (by omega) ?_ | refine k_eql rfl rfl (fun hc => ?_) (fun hc => ?_) | refine k_neqT rfl rfl (by omega) ?_ | refine k_neqF rfl rfl (by omega) ?_ | refine k_neq rfl rfl (fun hc => ?_) (fun hc => ?_) | refine k_len rfl rfl ?_ | refine k_ok rfl rfl ?_))
    exact ⟨.inr rfl, rfl⟩
  obtain rfl : pb = false := by simpa using hpb
  obtain ⟨pS1, hbx⟩ := pS1 rfl
  have pS2 := pS2 rfl
  have pl := kp.len
  have k32 := fun H sp x (is : IsD H sp (tms ps)) hx => call32s H sp x ps is (fun t ht => ⟨kp.ex t ht, kp.cf t ht⟩) pl hx
  have sv1 : sv 1 ps = sX (sgE 1) low xs xs.length := pS1
  have sv2 : sv (-1) ps = sX (sgE (-1)) low xs xs.length := pS2
  repeat' (first | refine w_seq ?_ | refine w_seqN ?_ | refine w_seqX ?_ | refine w_seqR ?_ | refine w_blk ?_ | refine w_blkN ?_ | refine w_blkX ?_ | refine w_blkR ?_ | refine w_skip ?_ | refine w_ret ?_ | refine w_exit ?_ | refine w_ops ?_ | refine w_opsD ?_ | refine d_one ?_ | refine d_nil ?_ | (refine w_blkY ?_ ?_; rfl) | ((refine i_cond ?_); first | refine w_condT rfl ?_ | refine w_condF rfl ?_) | ((refine i_nil ?_); first | refine d_same ?_ | refine d_ord ?_ | refine d_ext ⟨_, rfl⟩ ?_ | refine d_ext (extA _ _ _) ?_ | refine d_ext (by assumption) ?_ | refine w_end0 ?_ | refine w_end1 rfl ?_ | refine w_end2 rfl rfl ?_ | refine w_end3 rfl rfl rfl ?_ | refine w_end4 rfl rfl rfl rfl ?_ | refine w_end5 rfl rfl rfl rfl rfl ?_ | refine w_end6 rfl rfl rfl rfl rfl rfl ?_ | refine w_end7 rfl rfl rfl rfl rfl rfl rfl ?_ | refine w_end8 rfl rfl rfl rfl rfl rfl rfl rfl ?_ | refine w_end9 rfl rfl rfl rfl rfl rfl rfl rfl rfl ?_ | refine w_end10 rfl rfl rfl rfl rfl rfl rfl rfl rfl rfl ?_ | refine w_end11 rfl rfl rfl rfl rfl rfl rfl rfl rfl rfl rfl ?_ | refine w_end12 rfl rfl rfl rfl rfl rfl rfl rfl rfl rfl rfl rfl ?_ | refine w_end13 rfl rfl rfl rfl rfl rfl rfl rfl rfl rfl rfl rfl rfl ?_ | refine w_end14 rfl rfl rfl rfl rfl rfl rfl rfl rfl rfl rfl rfl rfl rfl ?_ | refine w_end15 rfl rfl rfl rfl rfl rfl rfl rfl rfl rfl rfl rfl rfl rfl rfl ?_ | refine w_end16 rfl rfl rfl rfl rfl rfl rfl rfl rfl rfl rfl rfl rfl rfl rfl rfl ?_) | ((refine i_cons ?_); first | (refine k_call rfl (aw _) ?_; rintro v _ ⟨rfl, rfl⟩) | (refine k_call rfl (k11 _ (Ext.refl _)) ?_; rintro v _ ⟨rfl, rfl⟩) | (refine k_call rfl (k12 _ (Ext.refl _)) ?_; rintro v h1 ⟨e1, sp, rfl, ip⟩) | (have z := e1; refine k_newst rfl ?_; intro h2 e2 c11; have ip2 := ip.ext e2) | refine k_ldC rfl c11 ?_ | (refine k_call rfl (k32 h2 _ 1 ip2 (.inl rfl)) ?_; rintro v h3 ⟨e3, m, n, er, hA, rfl⟩; have c11_3 := c11.ext e3; have ip3 := ip2.ext e3) | refine k_ldC rfl c11_3 ?_ | (refine k_call rfl (k32 h3 _ (-1) ip3 (.inr rfl)) ?_; rintro v h4 ⟨e4, k, l, fr, hB, rfl⟩; have c11_4 := c11_3.ext e4) | refine k_ldC rfl c11_4 ?_ | (refine k_call rfl (call14 h4 _ _) ?_; rintro v h5 ⟨e5, rfl⟩) | refine k_skip rfl ?_ | refine k_skipU rfl ?_ | refine k_want rfl ?_ | refine k_mv rfl ?_ | refine k_pickT rfl rfl ?_ | refine k_pickF rfl rfl ?_ | refine k_notT rfl ?_ | refine k_notF rfl ?_ | refine k_add rfl rfl (by omega) ?_ | refine k_sub rfl rfl (by omega) ?_ | refine k_mul rfl rfl (by omega) ?_ | refine k_neg rfl (by omega) ?_ | refine k_quo rfl rfl (by omega) ?_ | refine k_rem rfl rfl (by omega) ?_ | refine k_conv rfl (by omega) ?_ | refine k_max rfl rfl ?_ | refine k_min rfl rfl ?_ | refine k_lssT rfl rfl (by omega) ?_ | refine k_lssF rfl rfl (by omega) ?_ | refine k_lss rfl rfl (fun hc => ?_) (fun hc => ?_) | refine k_leqT rfl rfl (by omega) ?_ | refine k_leqF rfl rfl (by omega) ?_ | refine k_leq rfl rfl (fun hc => ?_) (fun hc => ?_) | refine k_gtrT rfl rfl (by omega) ?_ | refine k_gtrF rfl rfl (by omega) ?_ | refine k_gtr rfl rfl (fun hc => ?_) (fun hc => ?_) | refine k_geqT rfl rfl (by omega) ?_ | refine k_geqF rfl rfl (by omega) ?_ | refine k_geq rfl rfl (fun hc => ?_) (fun hc => ?_) | refine k_eqlT rfl rfl (by omega) ?_ | refine k_eqlF rfl rfl (by omega) ?_ | refine k_eql rfl rfl (fun hc => ?_) (fun hc => ?_) | refine k_neqT rfl rfl (by omega) ?_ | refine k_neqF rfl rfl (by omega) ?_ | refine k_neq rfl rfl (fun hc => ?_) (fun hc => ?_) | refine k_len rfl rfl ?_ | refine k_ok rfl rfl ?_))
  have eX := e1.trans (e2.trans (e3.trans (e4.trans e5)))
  refine w_loop (I8 h5 low s xs c e x m n er k l fr) (cK [0, 1, 2, 3, 4, 12, 13, 14, 15, 16, 17, 18, 19, 20] xs.length 20) (R8 h5 low xs c e x m n er k l fr) ⟨rfl, 0, Nat.zero_le _, rfl⟩ (round8 h5 low s xs c e x m n er k l fr ⟨hs1.2.1, hs1.2.2.1⟩ (IsSl.ext hx eX) hbx hs1.1) ?_
  rintro ex E' hF ⟨rfl, rfl, _, _, _, _, rfl⟩
  rw [sv1] at hA
  rw [sv2] at hB
  clear sv1 sv2 pS1 pS2
  clear pS1 pS2
  generalize sX (sgE 1) low xs xs.length = A at *
  generalize sX (sgE (-1)) low xs xs.length = B at *
  have hA1 : ¬ (-1125899906842624 ≤ A ∧ A ≤ 1125899906842624) ∨ (m = A ∧ n = 1 ∧ er = 0) := by unfold AtR at hA; omega
  have hA2 : (-1125899906842624 ≤ A ∧ A ≤ 1125899906842624) ∨ (m = 0 ∧ n = 0 ∧ er = 5) := by unfold AtR at hA; omega
  have hB1 : ¬ (-1125899906842624 ≤ B ∧ B ≤ 1125899906842624) ∨ (k = B ∧ l = 1 ∧ fr = 0) := by unfold AtR at hB; omega
  clear hA hB kp k32 hbx k12 k11 eX ip3 ip2 ip hx
  by_cases hg : (-1000 ≤ c ∧ c ≤ 1000) ∧ c ≠ 0 ∧ (0 ≤ e ∧ e ≤ 6) ∧ 2 ≤ x ∧ x ≤ 20
  case neg =>
    repeat' (first | refine w_seq ?_ | refine w_seqN ?_ | refine w_seqX ?_ | refine w_seqR ?_ | refine w_blk ?_ | refine w_blkN ?_ | refine w_blkX ?_ | refine w_blkR ?_ | refine w_skip ?_ | refine w_ret ?_ | refine w_exit ?_ | refine w_ops ?_ | refine w_opsD ?_ | refine d_one ?_ | refine d_nil ?_ | (refine w_blkY ?_ ?_; rfl) | ((refine i_cond ?_); first | refine w_condT rfl ?_ | refine w_condF rfl ?_) | ((refine i_nil ?_); first | refine d_same ?_ | refine d_ord ?_ | refine d_ext ⟨_, rfl⟩ ?_ | refine d_ext (extA _ _ _) ?_ | refine d_ext (by assumption) ?_ | refine w_end0 ?_ | refine w_end1 rfl ?_ | refine w_end2 rfl rfl ?_ | refine w_end3 rfl rfl rfl ?_ | refine w_end4 rfl rfl rfl rfl ?_ | refine w_end5 rfl rfl rfl rfl rfl ?_ | refine w_end6 rfl rfl rfl rfl rfl rfl ?_ | refine w_end7 rfl rfl rfl rfl rfl rfl rfl ?_ | refine w_end8 rfl rfl rfl rfl rfl rfl rfl rfl ?_ | refine w_end9 rfl rfl rfl rfl rfl rfl rfl rfl rfl ?_ | refine w_end10 rfl rfl rfl rfl rfl rfl rfl rfl rfl rfl ?_ | refine w_end11 rfl rfl rfl rfl rfl rfl rfl rfl rfl rfl rfl ?_ | refine w_end12 rfl rfl rfl rfl rfl rfl rfl rfl rfl rfl rfl rfl ?_ | refine w_end13 rfl rfl rfl rfl rfl rfl rfl rfl rfl rfl rfl rfl rfl ?_ | refine w_end14 rfl rfl rfl rfl rfl rfl rfl rfl rfl rfl rfl rfl rfl rfl ?_ | refine w_end15 rfl rfl rfl rfl rfl rfl rfl rfl rfl rfl rfl rfl rfl rfl rfl ?_ | refine w_end16 rfl rfl rfl rfl rfl rfl rfl rfl rfl rfl rfl rfl rfl rfl rfl rfl ?_) | ((refine i_cons ?_); first | refine k_skip rfl ?_ | refine k_skipU rfl ?_ | refine k_want rfl ?_ | refine k_mv rfl ?_ | refine k_pickT rfl rfl ?_ | refine k_pickF rfl rfl ?_ | refine k_notT rfl ?_ | refine k_notF rfl ?_ | refine k_add rfl rfl (by omega) ?_ | refine k_sub rfl rfl (by omega) ?_ | refine k_mul rfl rfl (by omega) ?_ | refine k_neg rfl (by omega) ?_ | refine k_quo rfl rfl (by omega) ?_ | refine k_rem rfl rfl (by omega) ?_ | refine k_conv rfl (by omega) ?_ | refine k_max rfl rfl ?_ | refine k_min rfl rfl ?_ | refine k_lssT rfl rfl (by omega) ?_ | refine k_lssF rfl rfl (by omega) ?_ | refine k_lss rfl rfl (fun hc => ?_) (fun hc => ?_) | refine k_leqT rfl rfl (by omega) ?_ | refine k_leqF rfl rfl (by omega) ?_ | refine k_leq rfl rfl (fun hc => ?_) (fun hc => ?_) | refine k_gtrT rfl rfl (by omega) ?_ | refine k_gtrF rfl rfl (by omega) ?_ | refine k_gtr rfl rfl (fun hc => ?_) (fun hc => ?_) | refine k_geqT rfl rfl (by omega) ?_ | refine k_geqF rfl rfl (by omega) ?_ | refine k_geq rfl rfl (fun hc => ?_) (fun hc => ?_) | refine k_eqlT rfl rfl (by omega) ?_ | refine k_eqlF rfl rfl (by omega) ?_ | refine k_eql rfl rfl (fun hc => ?_) (fun hc => ?_) | refine k_neqT rfl rfl (by omega) ?_ | refine k_neqF rfl rfl (by omega) ?_ | refine k_neq rfl rfl (fun hc => ?_) (fun hc => ?_) | refine k_len rfl rfl ?_ | refine k_ok rfl rfl ?_))
    all_goals exact ⟨.inr rfl, rfl⟩
  obtain ⟨hcr, hc0, her, hx2, hx20⟩ := hg
  obtain ⟨e', rfl⟩ : ∃ e' : Nat, e = e' := ⟨e.toNat, by omega⟩
  have hpw := pow_small (x := x) (i := e') ⟨hx2, hx20⟩ (by omega)
  have hlp := fun H => round8p H c x e' ⟨hx2, hx20⟩ (by omega)
  have k31a := fun H => call31 H c (e' : Int) ⟨hc0, by simp only [cM]; omega⟩ (by simp only [eM]; omega)
  have k31b := fun H => call31 H c (-(e' : Int)) ⟨hc0, by simp only [cM]; omega⟩ (by simp only [eM]; omega)
  have hcA : (c * x ^ e').natAbs ≤ 64000000000 := by
    rw [Int.natAbs_mul]
    exact Nat.le_trans (Nat.mul_le_mul (show c.natAbs ≤ 1000 by omega) (show (x ^ e').natAbs ≤ 64000000 by omega)) (by omega)
  have hcA : -64000000000 ≤ c * x ^ e' ∧ c * x ^ e' ≤ 64000000000 := by omega
  have pa1 : pa x.natAbs 0 [((e' : Int), c)] ≤ 1125899906842624 := by
    show c.natAbs * x.natAbs ^ ((e' : Int) - 0).toNat + 0 ≤ _
    rw [show ((e' : Int) - 0).toNat = e' by omega]
    have h4 : ((x.natAbs ^ e' : Nat) : Int) = x ^ e' := by rw [Int.natCast_pow, show (x.natAbs : Int) = x by omega]
    exact Nat.le_trans (Nat.mul_le_mul (show c.natAbs ≤ 1000 by omega) (show x.natAbs ^ e' ≤ 64000000 by omega)) (by omega)
  have pa2 : pa x.natAbs (-(e' : Int)) [(-(e' : Int), c)] ≤ 1125899906842624 := by
    show c.natAbs * x.natAbs ^ (-(e' : Int) - -(e' : Int)).toNat + 0 ≤ _
    rw [show (-(e' : Int) - -(e' : Int)).toNat = 0 by omega, Nat.pow_zero]; omega
  have px2 : x.natAbs ^ (0 - -(e' : Int)).toNat ≤ 1125899906842624 := by
    rw [show (0 - -(e' : Int)).toNat = e' by omega]
    have h4 : ((x.natAbs ^ e' : Nat) : Int) = x ^ e' := by rw [Int.natCast_pow, show (x.natAbs : Int) = x by omega]
    omega
  have k32a := fun H sp (is : IsD H sp (tms [((e' : Int), c)])) => call32f H sp [((e' : Int), c)] x 0 is (can1 _ _ hc0) ⟨by omega, by omega⟩ (Int.le_refl _) (fun t ht => by simp at ht; subst ht; simp only [eM, cM]; omega) pa1 (by simp) (by simp)
  have k32b := fun H sp (is : IsD H sp (tms [(-(e' : Int), c)])) => call32f H sp [(-(e' : Int), c)] x (-(e' : Int)) is (can1 _ _ hc0) ⟨by omega, by omega⟩ (by omega) (fun t ht => by simp at ht; subst ht; simp only [eM, cM]; omega) pa2 px2 (by simp)
  have fb : ∀ m d, IsFr x (-(e' : Int)) [(-(e' : Int), c)] m d → _ := fun m d f => fin2 ⟨hx2, hx20⟩ (by omega) (by omega) f
  have hbm : ∀ d : Nat, d ≤ 64000000 → -64000000000 ≤ c * (d : Int) ∧ c * (d : Int) ≤ 64000000000 := fun d hd => by
    have : (c * (d : Int)).natAbs ≤ 64000000000 := by
      rw [Int.natAbs_mul]
      exact Nat.le_trans (Nat.mul_le_mul (show c.natAbs ≤ 1000 by omega) (show ((d : Nat) : Int).natAbs ≤ 64000000 by omega)) (by omega)
    omega
  clear pa1 pa2 px2
  repeat' (first | refine w_seq ?_ | refine w_seqN ?_ | refine w_seqX ?_ | refine w_seqR ?_ | refine w_blk ?_ | refine w_blkN ?_ | refine w_blkX ?_ | refine w_blkR ?_ | refine w_skip ?_ | refine w_ret ?_ | refine w_exit ?_ | refine w_ops ?_ | refine w_opsD ?_ | refine d_one ?_ | refine d_nil ?_ | (refine w_blkY ?_ ?_; rfl) | ((refine i_cond ?_); first | refine w_condT rfl ?_ | refine w_condF rfl ?_) | ((refine i_nil ?_); first | refine d_same ?_ | refine d_ord ?_ | refine d_ext ⟨_, rfl⟩ ?_ | refine d_ext (extA _ _ _) ?_ | refine d_ext (by assumption) ?_ | refine w_end0 ?_ | refine w_end1 rfl ?_ | refine w_end2 rfl rfl ?_ | refine w_end3 rfl rfl rfl ?_ | refine w_end4 rfl rfl rfl rfl ?_ | refine w_end5 rfl rfl rfl rfl rfl ?_ | refine w_end6 rfl rfl rfl rfl rfl rfl ?_ | refine w_end7 rfl rfl rfl rfl rfl rfl rfl ?_ | refine w_end8 rfl rfl rfl rfl rfl rfl rfl rfl ?_ | refine w_end9 rfl rfl rfl rfl rfl rfl rfl rfl rfl ?_ | refine w_end10 rfl rfl rfl rfl rfl rfl rfl rfl rfl rfl ?_ | refine w_end11 rfl rfl rfl rfl rfl rfl rfl rfl rfl rfl rfl ?_ | refine w_end12 rfl rfl rfl rfl rfl rfl rfl rfl rfl rfl rfl rfl ?_ | refine w_end13 rfl rfl rfl rfl rfl rfl rfl rfl rfl rfl rfl rfl rfl ?_ | refine w_end14 rfl rfl rfl rfl rfl rfl rfl rfl rfl rfl rfl rfl rfl rfl ?_ | refine w_end15 rfl rfl rfl rfl rfl rfl rfl rfl rfl rfl rfl rfl rfl rfl rfl ?_ | refine w_end16 rfl rfl rfl rfl rfl rfl rfl rfl rfl rfl rfl rfl rfl rfl rfl rfl ?_) | ((refine i_cons ?_); first | refine k_skip rfl ?_ | refine k_skipU rfl ?_ | refine k_want rfl ?_ | refine k_mv rfl ?_ | refine k_pickT rfl rfl ?_ | refine k_pickF rfl rfl ?_ | refine k_notT rfl ?_ | refine k_notF rfl ?_ | refine k_add rfl rfl (by omega) ?_ | refine k_sub rfl rfl (by omega) ?_ | refine k_mul rfl rfl (by omega) ?_ | refine k_neg rfl (by omega) ?_ | refine k_quo rfl rfl (by omega) ?_ | refine k_rem rfl rfl (by omega) ?_ | refine k_conv rfl (by omega) ?_ | refine k_max rfl rfl ?_ | refine k_min rfl rfl ?_ | refine k_lssT rfl rfl (by omega) ?_ | refine k_lssF rfl rfl (by omega) ?_ | refine k_lss rfl rfl (fun hc => ?_) (fun hc => ?_) | refine k_leqT rfl rfl (by omega) ?_ | refine k_leqF rfl rfl (by omega) ?_ | refine k_leq rfl rfl (fun hc => ?_) (fun hc => ?_) | refine k_gtrT rfl rfl (by omega) ?_ | refine k_gtrF rfl rfl (by omega) ?_ | refine k_gtr rfl rfl (fun hc => ?_) (fun hc => ?_) | refine k_geqT rfl rfl (by omega) ?_ | refine k_geqF rfl rfl (by omega) ?_ | refine k_geq rfl rfl (fun hc => ?_) (fun hc => ?_) | refine k_eqlT rfl rfl (by omega) ?_ | refine k_eqlF rfl rfl (by omega) ?_ | refine k_eql rfl rfl (fun hc => ?_) (fun hc => ?_) | refine k_neqT rfl rfl (by omega) ?_ | refine k_neqF rfl rfl (by omega) ?_ | refine k_neq rfl rfl (fun hc => ?_) (fun hc => ?_) | refine k_len rfl rfl ?_ | refine k_ok rfl rfl ?_))
  all_goals
    refine w_loop (I8p _ c x e') (cK [2, 3, 4, 21, 174, 175] e' 175) (R8p _ c x e') ⟨rfl, 0, Nat.zero_le _, by rw [Int.pow_zero]; rfl⟩ (hlp _) ?_
    rintro ex E' h6 ⟨rfl, rfl, _, _, _, rfl⟩
    repeat' (first | refine w_seq ?_ | refine w_seqN ?_ | refine w_seqX ?_ | refine w_seqR ?_ | refine w_blk ?_ | refine w_blkN ?_ | refine w_blkX ?_ | refine w_blkR ?_ | refine w_skip ?_ | refine w_ret ?_ | refine w_exit ?_ | refine w_ops ?_ | refine w_opsD ?_ | refine d_one ?_ | refine d_nil ?_ | (refine w_blkY ?_ ?_; rfl) | ((refine i_cond ?_); first | refine w_condT rfl ?_ | refine w_condF rfl ?_) | ((refine i_nil ?_); first | refine d_same ?_ | refine d_ord ?_ | refine d_ext ⟨_, rfl⟩ ?_ | refine d_ext (extA _ _ _) ?_ | refine d_ext (by assumption) ?_ | refine w_end0 ?_ | refine w_end1 rfl ?_ | refine w_end2 rfl rfl ?_ | refine w_end3 rfl rfl rfl ?_ | refine w_end4 rfl rfl rfl rfl ?_ | refine w_end5 rfl rfl rfl rfl rfl ?_ | refine w_end6 rfl rfl rfl rfl rfl rfl ?_ | refine w_end7 rfl rfl rfl rfl rfl rfl rfl ?_ | refine w_end8 rfl rfl rfl rfl rfl rfl rfl rfl ?_ | refine w_end9 rfl rfl rfl rfl rfl rfl rfl rfl rfl ?_ | refine w_end10 rfl rfl rfl rfl rfl rfl rfl rfl rfl rfl ?_ | refine w_end11 rfl rfl rfl rfl rfl rfl rfl rfl rfl rfl rfl ?_ | refine w_end12 rfl rfl rfl rfl rfl rfl rfl rfl rfl rfl rfl rfl ?_ | refine w_end13 rfl rfl rfl rfl rfl rfl rfl rfl rfl rfl rfl rfl rfl ?_ | refine w_end14 rfl rfl rfl rfl rfl rfl rfl rfl rfl rfl rfl rfl rfl rfl ?_ | refine w_end15 rfl rfl rfl rfl rfl rfl rfl rfl rfl rfl rfl rfl rfl rfl rfl ?_ | refine w_end16 rfl rfl rfl rfl rfl rfl rfl rfl rfl rfl rfl rfl rfl rfl rfl rfl ?_) | ((refine i_cons ?_); first | (refine k_call rfl (k31a _) ?_; rintro v h7 ⟨e7, s7, rfl, i7⟩) | (refine k_call rfl (k32a _ _ i7) ?_; rintro v h8 ⟨e8, m1, d1, F1, rfl⟩; obtain ⟨rfl, rfl⟩ := fin1 F1) | (have z := e8; refine k_call rfl (k31b _) ?_; rintro v h9 ⟨e9, s9, rfl, i9⟩) | (refine k_call rfl (k32b _ _ i9) ?_; rintro v hT ⟨eT, m2, d2, F2, rfl⟩; obtain ⟨f1, f2, f3, f4, f5⟩ := fb _ _ F2; have f6 := hbm d2 f4; have k33 := call33 hT m2 (d2 : Int) (by omega) (by omega); rw [show ((d2 : Nat) : Int).natAbs = d2 from rfl, f2] at k33) | (refine k_mul rfl rfl (by omega) ?_) | (refine k_call rfl k33 ?_; rintro v _ ⟨rfl, rfl⟩) | refine k_skip rfl ?_ | refine k_skipU rfl ?_ | refine k_want rfl ?_ | refine k_mv rfl ?_ | refine k_pickT rfl rfl ?_ | refine k_pickF rfl rfl ?_ | refine k_notT rfl ?_ | refine k_notF rfl ?_ | refine k_add rfl rfl (by omega) ?_ | refine k_sub rfl rfl (by omega) ?_ | refine k_mul rfl rfl (by omega) ?_ | refine k_neg rfl (by omega) ?_ | refine k_quo rfl rfl (by omega) ?_ | refine k_rem rfl rfl (by omega) ?_ | refine k_conv rfl (by omega) ?_ | refine k_max rfl rfl ?_ | refine k_min rfl rfl ?_ | refine k_lssT rfl rfl (by omega) ?_ | refine k_lssF rfl rfl (by omega) ?_ | refine k_lss rfl rfl (fun hc => ?_) (fun hc => ?_) | refine k_leqT rfl rfl (by omega) ?_ | refine k_leqF rfl rfl (by omega) ?_ | refine k_leq rfl rfl (fun hc => ?_) (fun hc => ?_) | refine k_gtrT rfl rfl (by omega) ?_ | refine k_gtrF rfl rfl (by omega) ?_ | refine k_gtr rfl rfl (fun hc => ?_) (fun hc => ?_) | refine k_geqT rfl rfl (by omega) ?_ | refine k_geqF rfl rfl (by omega) ?_ | refine k_geq rfl rfl (fun hc => ?_) (fun hc => ?_) | refine k_eqlT rfl rfl (by omega) ?_ | refine k_eqlF rfl rfl (by omega) ?_ | refine k_eql rfl rfl (fun hc => ?_) (fun hc => ?_) | refine k_neqT rfl rfl (by omega) ?_ | refine k_neqF rfl rfl (by omega) ?_ | refine k_neq rfl rfl (fun hc => ?_) (fun hc => ?_) | refine k_len rfl rfl ?_ | refine k_ok rfl rfl ?_))
    exact ⟨.inr rfl, rfl⟩
end Go.Proofs.YtlnjddjobbhcaaaDoor
