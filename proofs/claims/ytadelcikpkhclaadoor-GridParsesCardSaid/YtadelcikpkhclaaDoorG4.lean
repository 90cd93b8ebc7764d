/- Contracts: mod, translate, the reference's Shift. -/
import Derived.Test.YtadelcikpkhclaaDoorGP4
import Derived.Test.YtadelcikpkhclaaDoorAb29
namespace Go.Proofs.YtadelcikpkhclaaDoor
open Go.Ab
set_option linter.unusedVariables false
set_option maxRecDepth 20000
attribute [local irreducible] wOps wA wSeq wBlk wRound wOpsD
variable {HK : FuncId → Option Hook}

theorem mod_fix {x n : Int} (hn : 0 < n) : (x.tmod n + n).tmod n = x % n := by
  have hb := Int.lt_tmod_of_pos x hn
  rw [Int.tmod_eq_emod_of_nonneg (by omega), Int.add_emod_right]
  have : x.tmod n = x - n * x.tdiv n := by have := Int.mul_tdiv_add_tmod x n; omega
  rw [this, Int.sub_mul_emod_self_left]
theorem tmod_bd {x n : Int} (hn : 0 < n) : -n < x.tmod n ∧ x.tmod n < n := by
  have h1 := Int.lt_tmod_of_pos x hn
  have h2 := Int.tmod_lt_of_pos x hn
  exact ⟨h1, h2⟩

theorem call42 (hk : HK 42 = none) (h0 : Heap) (x n : Int) (hn : 0 < n ∧ n ≤ 1000000) : ∃ v h', Cal FT HK 42 [.sc (.int .i64 x), .sc (.int .i64 n)] h0 v h' ∧ h' = h0 ∧ v = .sc (.int .i64 (x % n)) := by
  refine Cal.of (F := a42) hk rfl rfl ?_
  have hb := tmod_bd (x := x) hn.1
  rw [← mod_fix (x := x) hn.1]
  repeat' (first
    | refine w_seq ?_
    | refine w_seqN ?_
    | refine w_seqX ?_
    | refine w_seqR ?_
    | refine w_blk ?_
    | refine w_blkN ?_
    | refine w_blkX ?_
    | refine w_blkR ?_
    | refine w_skip ?_
    | refine w_ret ?_
    | refine w_exit ?_
    | refine w_ops ?_
    | refine w_opsD ?_
    | refine d_one ?_
    | refine d_nil ?_
    | ((refine i_cond ?_); first | refine w_condT rfl ?_ | refine w_condF rfl ?_)
    | ((refine i_nil ?_); first | refine d_same ?_ | refine d_ord ?_ | refine d_ext ⟨_, rfl⟩ ?_ | refine d_ext (extA _ _ _) ?_ | refine d_ext (by assumption) ?_ | refine w_end0 ?_ | refine w_end1 rfl ?_ | refine w_end2 rfl rfl ?_ | refine w_end3 rfl rfl rfl ?_ | refine w_end4 rfl rfl rfl rfl ?_ | refine w_end5 rfl rfl rfl rfl rfl ?_ | refine w_end6 rfl rfl rfl rfl rfl rfl ?_ | refine w_end7 rfl rfl rfl rfl rfl rfl rfl ?_ | refine w_end8 rfl rfl rfl rfl rfl rfl rfl rfl ?_ | refine w_end9 rfl rfl rfl rfl rfl rfl rfl rfl rfl ?_ | refine w_end10 rfl rfl rfl rfl rfl rfl rfl rfl rfl rfl ?_ | refine w_end11 rfl rfl rfl rfl rfl rfl rfl rfl rfl rfl rfl ?_ | refine w_end12 rfl rfl rfl rfl rfl rfl rfl rfl rfl rfl rfl rfl ?_ | refine w_end13 rfl rfl rfl rfl rfl rfl rfl rfl rfl rfl rfl rfl rfl ?_ | refine w_end14 rfl rfl rfl rfl rfl rfl rfl rfl rfl rfl rfl rfl rfl rfl ?_ | refine w_end15 rfl rfl rfl rfl rfl rfl rfl rfl rfl rfl rfl rfl rfl rfl rfl ?_ | refine w_end16 rfl rfl rfl rfl rfl rfl rfl rfl rfl rfl rfl rfl rfl rfl rfl rfl ?_)
    | ((refine i_cons ?_); first
      | refine k_tmod rfl rfl (by omega) ?_
      | refine k_skip rfl ?_
      | refine k_skipU rfl ?_
      | refine k_want rfl ?_
      | refine k_mv rfl ?_
      | refine k_pickT rfl rfl ?_
      | refine k_pickF rfl rfl ?_
      | refine k_notT rfl ?_
      | refine k_notF rfl ?_
      | refine k_add rfl rfl (by omega) ?_
      | refine k_sub rfl rfl (by omega) ?_
      | refine k_mul rfl rfl (by omega) ?_
      | refine k_neg rfl (by omega) ?_
      | refine k_quo rfl rfl (by omega) ?_
      | refine k_rem rfl rfl (by omega) ?_
      | refine k_conv rfl (by omega) ?_
      | refine k_max rfl rfl ?_
      | refine k_min rfl rfl ?_
      | refine k_lssT rfl rfl (by omega) ?_
      | refine k_lssF rfl rfl (by omega) ?_
      | refine k_lss rfl rfl (fun hc => ?_) (fun hc => ?_)
      | refine k_leqT rfl rfl (by omega) ?_
      | refine k_leqF rfl rfl (by omega) ?_
      | refine k_leq rfl rfl (fun hc => ?_) (fun hc => ?_)
      | refine k_gtrT rfl rfl (by omega) ?_
      | refine k_gtrF rfl rfl (by omega) ?_
      | refine k_gtr rfl rfl (fun hc => ?_) (fun hc => ?_)
      | refine k_geqT rfl rfl (by omega) ?_
      | refine k_geqF rfl rfl (by omega) ?_
      | refine k_geq rfl rfl (fun hc => ?_) (fun hc => ?_)
      | refine k_eqlT rfl rfl (by omega) ?_
      | refine k_eqlF rfl rfl (by omega) ?_
      | refine k_eql rfl rfl (fun hc => ?_) (fun hc => ?_)
      | refine k_neqT rfl rfl (by omega) ?_
      | refine k_neqF rfl rfl (by omega) ?_
      | refine k_neq rfl rfl (fun hc => ?_) (fun hc => ?_)
      | refine k_len rfl rfl ?_
      | refine k_ok rfl rfl ?_))
  exact ⟨.inr rfl, rfl, rfl⟩

/-- The blocks of a grid diagram under way. -/
def L39 (h0 : Heap) (X O : SV) (n : Nat) (ys zs : List Int) : Heap := [.cells [X, O] true 0, .cells [.nilS, .nilS] true 0, .cells (ints ys) true 1, .cells (ints zs) true 1, .cells [.slc (h0.length + 2) 0 n (some n), .slc (h0.length + 3) 0 n (some n)] true 0]
def f39 (n : Nat) (c : Int) (i : Nat) : Nat := (((i : Int) + c) % n).toNat
def v39 (n : Nat) (r : Int) (xs : List Int) (i : Nat) : Int := (atN xs i + r) % n
abbrev zeros (n : Nat) : List Int := List.replicate n 0

def I39 (h0 : Heap) (X O : SV) (n : Nat) (c r : Int) (xs os : List Int) (E : Env) (h : Heap) : Prop := ∃ i : Nat, i ≤ n ∧ h = h0 ++ L39 h0 X O n (scat (zeros n) (f39 n c) (v39 n r xs) i) (scat (zeros n) (f39 n c) (v39 n r os) i) ∧
  E = [(1, some (.sc (.int .i64 c))), (2, some (.sc (.int .i64 r))), (3, some (.sc (.ptr (h0.length + 0) 0))), (6, some (.sc (.ptr (h0.length + 1) 0))), (7, some (.sc (.int .i64 n))), (8, some (.sc (.ptr (h0.length + 4) 0))), (19, some (.sc (.int .i64 n))), (20, some (.sc (.int .i64 i)))]
def R39 (h0 : Heap) (X O : SV) (n : Nat) (f : Nat → Nat) (v u : Nat → Int) (ex : Ex) (E : Env) (h : Heap) : Prop := ex = .ex 0 ∧ h = h0 ++ L39 h0 X O n (scat (zeros n) f v n) (scat (zeros n) f u n) ∧ ∃ a b c d e f,
  E = [(1, a), (2, b), (3, c), (6, some (.sc (.ptr (h0.length + 1) 0))), (7, d), (8, some (.sc (.ptr (h0.length + 4) 0))), (19, e), (20, f), (21, some (.sc (.bool false)))]

theorem f39_lt {n : Nat} {c : Int} {i : Nat} (h0 : 0 < n) : f39 n c i < n := by
  have a1 : 0 ≤ ((i : Int) + c) % n := Int.emod_nonneg _ (by omega)
  have a2 : ((i : Int) + c) % n < n := Int.emod_lt_of_pos _ (by omega)
  unfold f39; omega
theorem f39_nat (n k i : Nat) : f39 n (k : Int) i = (i + k) % n := by
  unfold f39
  rw [← Int.natCast_add, ← Int.natCast_emod, Int.toNat_natCast]
theorem rg_at {n : Nat} {xs : List Int} (hr : ∀ x ∈ xs, In01 n x) {i : Nat} (h : i < xs.length) : 0 ≤ atN xs i ∧ atN xs i < n := hr _ (List.mem_of_getElem? (atN_get h))

set_option maxHeartbeats 1000000 in
theorem round39 (h0 : Heap) (X O : SV) (n : Nat) (c r : Int) (xs os : List Int) (h1 : 0 < n ∧ n ≤ 1000) (hc : 0 ≤ c ∧ c ≤ 1000000) (hr : 0 ≤ r ∧ r ≤ 1000000) (hX : IsInts h0 X xs) (hO : IsInts h0 O os) (lX : xs.length = n) (lO : os.length = n)
    (rX : ∀ x ∈ xs, In01 n x) (rO : ∀ x ∈ os, In01 n x) (E : Env) (h : Heap) (hI : I39 h0 X O n c r xs os E h) :
    wA FT HK b39L0 (E.keep [1, 2, 3, 6, 7, 8, 19, 20]) h (wRound (I39 h0 X O n c r xs os) (cnt n 20) (cnt n 20 E h) (R39 h0 X O n (f39 n c) (v39 n r xs) (v39 n r os))) := by
  obtain ⟨i, hi, rfl, rfl⟩ := hI
  by_cases hlt : i < n
  · have bx := rg_at rX (i := i) (by omega)
    have bo := rg_at rO (i := i) (by omega)
    have a1 : 0 ≤ ((i : Int) + c) % n := Int.emod_nonneg _ (by omega)
    have a2 : ((i : Int) + c) % n < n := Int.emod_lt_of_pos _ (by omega)
    obtain ⟨iX, oX, cX, rfl, hrX⟩ := IsInts.at (isA (L39 h0 X O n (scat (zeros n) (f39 n c) (v39 n r xs) i) (scat (zeros n) (f39 n c) (v39 n r os) i)) hX) (atN_get (xs := xs) (k := i) (by omega))
    obtain ⟨iO, oO, cO, rfl, hrO⟩ := IsInts.at (isA (L39 h0 (.slc iX oX xs.length cX) O n (scat (zeros n) (f39 n c) (v39 n r xs) (i + 1)) (scat (zeros n) (f39 n c) (v39 n r os) i)) hO) (atN_get (xs := os) (k := i) (by omega))
    have w1 : writeN (L39 h0 (.slc iX oX xs.length cX) (.slc iO oO os.length cO) n (scat (zeros n) (f39 n c) (v39 n r xs) i) (scat (zeros n) (f39 n c) (v39 n r os) i)) 2 (0 + (((i : Int) + c) % n).toNat * 1) [.int .i64 ((atN xs i + r) % n)] = some (L39 h0 (.slc iX oX xs.length cX) (.slc iO oO os.length cO) n (scat (zeros n) (f39 n c) (v39 n r xs) (i + 1)) (scat (zeros n) (f39 n c) (v39 n r os) i)) :=
      wrI (L := L39 _ _ _ _ _ _) rfl (by rw [scat_len, List.length_replicate]; omega) _
    have w2 : writeN (L39 h0 (.slc iX oX xs.length cX) (.slc iO oO os.length cO) n (scat (zeros n) (f39 n c) (v39 n r xs) (i + 1)) (scat (zeros n) (f39 n c) (v39 n r os) i)) 3 (0 + (((i : Int) + c) % n).toNat * 1) [.int .i64 ((atN os i + r) % n)] = some (L39 h0 (.slc iX oX xs.length cX) (.slc iO oO os.length cO) n (scat (zeros n) (f39 n c) (v39 n r xs) (i + 1)) (scat (zeros n) (f39 n c) (v39 n r os) (i + 1))) :=
      wrI (L := L39 _ _ _ _ _ _) rfl (by rw [scat_len, List.length_replicate]; omega) _
    repeat' (first
      | refine w_seq ?_
      | refine w_seqN ?_
      | refine w_seqX ?_
      | refine w_seqR ?_
      | refine w_blk ?_
      | refine w_blkN ?_
      | refine w_blkX ?_
      | refine w_blkR ?_
      | refine w_skip ?_
      | refine w_ret ?_
      | refine w_exit ?_
      | refine w_ops ?_
      | refine w_opsD ?_
      | refine d_one ?_
      | refine d_nil ?_
      | ((refine i_cond ?_); first | refine w_condT rfl ?_ | refine w_condF rfl ?_)
      | ((refine i_nil ?_); first | refine d_same ?_ | refine d_ord ?_ | refine d_ext ⟨_, rfl⟩ ?_ | refine d_ext (extA _ _ _) ?_ | refine d_ext (by assumption) ?_ | refine w_end0 ?_ | refine w_end1 rfl ?_ | refine w_end2 rfl rfl ?_ | refine w_end3 rfl rfl rfl ?_ | refine w_end4 rfl rfl rfl rfl ?_ | refine w_end5 rfl rfl rfl rfl rfl ?_ | refine w_end6 rfl rfl rfl rfl rfl rfl ?_ | refine w_end7 rfl rfl rfl rfl rfl rfl rfl ?_ | refine w_end8 rfl rfl rfl rfl rfl rfl rfl rfl ?_ | refine w_end9 rfl rfl rfl rfl rfl rfl rfl rfl rfl ?_ | refine w_end10 rfl rfl rfl rfl rfl rfl rfl rfl rfl rfl ?_ | refine w_end11 rfl rfl rfl rfl rfl rfl rfl rfl rfl rfl rfl ?_ | refine w_end12 rfl rfl rfl rfl rfl rfl rfl rfl rfl rfl rfl rfl ?_ | refine w_end13 rfl rfl rfl rfl rfl rfl rfl rfl rfl rfl rfl rfl rfl ?_ | refine w_end14 rfl rfl rfl rfl rfl rfl rfl rfl rfl rfl rfl rfl rfl rfl ?_ | refine w_end15 rfl rfl rfl rfl rfl rfl rfl rfl rfl rfl rfl rfl rfl rfl rfl ?_ | refine w_end16 rfl rfl rfl rfl rfl rfl rfl rfl rfl rfl rfl rfl rfl rfl rfl rfl ?_)
      | ((refine i_cons ?_); first
        | refine k_ld rfl hrX ?_
        | refine k_ld rfl hrO ?_
        | refine k_ldL rfl rfl ?_
        | refine k_idxA rfl rfl (by omega) ?_
        | refine k_stL rfl rfl rfl rfl w1 ?_
        | refine k_stL rfl rfl rfl rfl w2 ?_
        | refine k_skip rfl ?_
        | refine k_skipU rfl ?_
        | refine k_want rfl ?_
        | refine k_mv rfl ?_
        | refine k_pickT rfl rfl ?_
        | refine k_pickF rfl rfl ?_
        | refine k_notT rfl ?_
        | refine k_notF rfl ?_
        | refine k_add rfl rfl (by omega) ?_
        | refine k_sub rfl rfl (by omega) ?_
        | refine k_mul rfl rfl (by omega) ?_
        | refine k_neg rfl (by omega) ?_
        | refine k_quo rfl rfl (by omega) ?_
        | refine k_rem rfl rfl (by omega) ?_
        | refine k_conv rfl (by omega) ?_
        | refine k_max rfl rfl ?_
        | refine k_min rfl rfl ?_
        | refine k_lssT rfl rfl (by omega) ?_
        | refine k_lssF rfl rfl (by omega) ?_
        | refine k_lss rfl rfl (fun hc => ?_) (fun hc => ?_)
        | refine k_leqT rfl rfl (by omega) ?_
        | refine k_leqF rfl rfl (by omega) ?_
        | refine k_leq rfl rfl (fun hc => ?_) (fun hc => ?_)
        | refine k_gtrT rfl rfl (by omega) ?_
        | refine k_gtrF rfl rfl (by omega) ?_
        | refine k_gtr rfl rfl (fun hc => ?_) (fun hc => ?_)
        | refine k_geqT rfl rfl (by omega) ?_
        | refine k_geqF rfl rfl (by omega) ?_
        | refine k_geq rfl rfl (fun hc => ?_) (fun hc => ?_)
        | refine k_eqlT rfl rfl (by omega) ?_
        | refine k_eqlF rfl rfl (by omega) ?_
        | refine k_eql rfl rfl (fun hc => ?_) (fun hc => ?_)
        | refine k_neqT rfl rfl (by omega) ?_
        | refine k_neqF rfl rfl (by omega) ?_
        | refine k_neq rfl rfl (fun hc => ?_) (fun hc => ?_)
        | refine k_len rfl rfl ?_
        | refine k_ok rfl rfl ?_))
    exact w_roundN ⟨i + 1, by omega, rfl, rfl⟩ (by simp [cnt, Env.get]; omega)
  · obtain rfl : i = n := by omega
    repeat' (first
      | refine w_seq ?_
      | refine w_seqN ?_
      | refine w_seqX ?_
      | refine w_seqR ?_
      | refine w_blk ?_
      | refine w_blkN ?_
      | refine w_blkX ?_
      | refine w_blkR ?_
      | refine w_skip ?_
      | refine w_ret ?_
      | refine w_exit ?_
      | refine w_ops ?_
      | refine w_opsD ?_
      | refine d_one ?_
      | refine d_nil ?_
      | ((refine i_cond ?_); first | refine w_condT rfl ?_ | refine w_condF rfl ?_)
      | ((refine i_nil ?_); first | refine d_same ?_ | refine d_ord ?_ | refine d_ext ⟨_, rfl⟩ ?_ | refine d_ext (extA _ _ _) ?_ | refine d_ext (by assumption) ?_ | refine w_end0 ?_ | refine w_end1 rfl ?_ | refine w_end2 rfl rfl ?_ | refine w_end3 rfl rfl rfl ?_ | refine w_end4 rfl rfl rfl rfl ?_ | refine w_end5 rfl rfl rfl rfl rfl ?_ | refine w_end6 rfl rfl rfl rfl rfl rfl ?_ | refine w_end7 rfl rfl rfl rfl rfl rfl rfl ?_ | refine w_end8 rfl rfl rfl rfl rfl rfl rfl rfl ?_ | refine w_end9 rfl rfl rfl rfl rfl rfl rfl rfl rfl ?_ | refine w_end10 rfl rfl rfl rfl rfl rfl rfl rfl rfl rfl ?_ | refine w_end11 rfl rfl rfl rfl rfl rfl rfl rfl rfl rfl rfl ?_ | refine w_end12 rfl rfl rfl rfl rfl rfl rfl rfl rfl rfl rfl rfl ?_ | refine w_end13 rfl rfl rfl rfl rfl rfl rfl rfl rfl rfl rfl rfl rfl ?_ | refine w_end14 rfl rfl rfl rfl rfl rfl rfl rfl rfl rfl rfl rfl rfl rfl ?_ | refine w_end15 rfl rfl rfl rfl rfl rfl rfl rfl rfl rfl rfl rfl rfl rfl rfl ?_ | refine w_end16 rfl rfl rfl rfl rfl rfl rfl rfl rfl rfl rfl rfl rfl rfl rfl rfl ?_)
      | ((refine i_cons ?_); first
        | refine k_skip rfl ?_
        | refine k_skipU rfl ?_
        | refine k_want rfl ?_
        | refine k_mv rfl ?_
        | refine k_pickT rfl rfl ?_
        | refine k_pickF rfl rfl ?_
        | refine k_notT rfl ?_
        | refine k_notF rfl ?_
        | refine k_add rfl rfl (by omega) ?_
        | refine k_sub rfl rfl (by omega) ?_
        | refine k_mul rfl rfl (by omega) ?_
        | refine k_neg rfl (by omega) ?_
        | refine k_quo rfl rfl (by omega) ?_
        | refine k_rem rfl rfl (by omega) ?_
        | refine k_conv rfl (by omega) ?_
        | refine k_max rfl rfl ?_
        | refine k_min rfl rfl ?_
        | refine k_lssT rfl rfl (by omega) ?_
        | refine k_lssF rfl rfl (by omega) ?_
        | refine k_lss rfl rfl (fun hc => ?_) (fun hc => ?_)
        | refine k_leqT rfl rfl (by omega) ?_
        | refine k_leqF rfl rfl (by omega) ?_
        | refine k_leq rfl rfl (fun hc => ?_) (fun hc => ?_)
        | refine k_gtrT rfl rfl (by omega) ?_
        | refine k_gtrF rfl rfl (by omega) ?_
        | refine k_gtr rfl rfl (fun hc => ?_) (fun hc => ?_)
        | refine k_geqT rfl rfl (by omega) ?_
        | refine k_geqF rfl rfl (by omega) ?_
        | refine k_geq rfl rfl (fun hc => ?_) (fun hc => ?_)
        | refine k_eqlT rfl rfl (by omega) ?_
        | refine k_eqlF rfl rfl (by omega) ?_
        | refine k_eql rfl rfl (fun hc => ?_) (fun hc => ?_)
        | refine k_neqT rfl rfl (by omega) ?_
        | refine k_neqF rfl rfl (by omega) ?_
        | refine k_neq rfl rfl (fun hc => ?_) (fun hc => ?_)
        | refine k_len rfl rfl ?_
        | refine k_ok rfl rfl ?_))
    exact w_roundX ⟨rfl, rfl, _, _, _, _, _, _, rfl⟩

theorem own_tail {h0 : Heap} {k n : Nat} {xs : List Int} {L : Heap} (hL : L[k]? = some (.cells (ints xs) true 1)) (hn : xs.length = n) : IsInts (h0 ++ L) (.slc (h0.length + k) 0 n (some n)) xs :=
  .inr ⟨_, 0, some n, _, by rw [hn], by rw [get_app]; exact hL, rfl, fun h => by rw [List.eq_nil_of_length_eq_zero h]; rfl, fun _ => ⟨_, _, rfl, by unfold cut; simp only [ESz.one_n]; rw [if_pos (by simp)]; simp only [List.drop_zero]; rw [List.take_of_length_le (by simp)]⟩⟩

set_option maxHeartbeats 1000000 in
theorem call39 (hk : HK 39 = none) (h0 : Heap) (X O : SV) (n : Nat) (c r : Int) (xs os : List Int) (h1 : 0 < n ∧ n ≤ 1000) (hc : 0 ≤ c ∧ c ≤ 1000000) (hr : 0 ≤ r ∧ r ≤ 1000000) (hX : IsInts h0 X xs) (hO : IsInts h0 O os) (lX : xs.length = n) (lO : os.length = n)
    (rX : ∀ x ∈ xs, In01 n x) (rO : ∀ x ∈ os, In01 n x) :
    ∃ v h', Cal FT HK 39 [.agg [X, O], .sc (.int .i64 c), .sc (.int .i64 r)] h0 v h' ∧ ∃ X' O', v = .agg [X', O'] ∧ IsInts h' X' (shf c r xs) ∧ IsInts h' O' (shf c r os) ∧ Ext h0 h' := by
  refine Cal.of (F := a39) hk rfl rfl ?_
  have hl1 := IsSl.len hX
  rw [lX] at hl1
  have hbd : n * (8 + 1) ≤ bigN := by simp [bigN]; omega
  repeat' (first
    | refine w_seq ?_
    | refine w_seqN ?_
    | refine w_seqX ?_
    | refine w_seqR ?_
    | refine w_blk ?_
    | refine w_blkN ?_
    | refine w_blkX ?_
    | refine w_blkR ?_
    | refine w_skip ?_
    | refine w_ret ?_
    | refine w_exit ?_
    | refine w_ops ?_
    | refine w_opsD ?_
    | refine d_one ?_
    | refine d_nil ?_
    | ((refine i_cond ?_); first | refine w_condT rfl ?_ | refine w_condF rfl ?_)
    | ((refine i_nil ?_); first | refine d_same ?_ | refine d_ord ?_ | refine d_ext ⟨_, rfl⟩ ?_ | refine d_ext (extA _ _ _) ?_ | refine d_ext (by assumption) ?_ | refine w_end0 ?_ | refine w_end1 rfl ?_ | refine w_end2 rfl rfl ?_ | refine w_end3 rfl rfl rfl ?_ | refine w_end4 rfl rfl rfl rfl ?_ | refine w_end5 rfl rfl rfl rfl rfl ?_ | refine w_end6 rfl rfl rfl rfl rfl rfl ?_ | refine w_end7 rfl rfl rfl rfl rfl rfl rfl ?_ | refine w_end8 rfl rfl rfl rfl rfl rfl rfl rfl ?_ | refine w_end9 rfl rfl rfl rfl rfl rfl rfl rfl rfl ?_ | refine w_end10 rfl rfl rfl rfl rfl rfl rfl rfl rfl rfl ?_ | refine w_end11 rfl rfl rfl rfl rfl rfl rfl rfl rfl rfl rfl ?_ | refine w_end12 rfl rfl rfl rfl rfl rfl rfl rfl rfl rfl rfl rfl ?_ | refine w_end13 rfl rfl rfl rfl rfl rfl rfl rfl rfl rfl rfl rfl rfl ?_ | refine w_end14 rfl rfl rfl rfl rfl rfl rfl rfl rfl rfl rfl rfl rfl rfl ?_ | refine w_end15 rfl rfl rfl rfl rfl rfl rfl rfl rfl rfl rfl rfl rfl rfl rfl ?_ | refine w_end16 rfl rfl rfl rfl rfl rfl rfl rfl rfl rfl rfl rfl rfl rfl rfl rfl ?_)
    | ((refine i_cons ?_); first
      | refine k_box0 rfl rfl ?_
      | refine k_newL ?_
      | refine k_ldL rfl rfl ?_
      | refine k_len rfl hl1 ?_
      | refine k_mkL rfl rfl hbd ?_
      | refine k_bld rfl rfl ?_
      | refine k_stL rfl rfl rfl rfl rfl ?_
      | refine k_skip rfl ?_
      | refine k_skipU rfl ?_
      | refine k_want rfl ?_
      | refine k_mv rfl ?_
      | refine k_pickT rfl rfl ?_
      | refine k_pickF rfl rfl ?_
      | refine k_notT rfl ?_
      | refine k_notF rfl ?_
      | refine k_add rfl rfl (by omega) ?_
      | refine k_sub rfl rfl (by omega) ?_
      | refine k_mul rfl rfl (by omega) ?_
      | refine k_neg rfl (by omega) ?_
      | refine k_quo rfl rfl (by omega) ?_
      | refine k_rem rfl rfl (by omega) ?_
      | refine k_conv rfl (by omega) ?_
      | refine k_max rfl rfl ?_
      | refine k_min rfl rfl ?_
      | refine k_lssT rfl rfl (by omega) ?_
      | refine k_lssF rfl rfl (by omega) ?_
      | refine k_lss rfl rfl (fun hc => ?_) (fun hc => ?_)
      | refine k_leqT rfl rfl (by omega) ?_
      | refine k_leqF rfl rfl (by omega) ?_
      | refine k_leq rfl rfl (fun hc => ?_) (fun hc => ?_)
      | refine k_gtrT rfl rfl (by omega) ?_
      | refine k_gtrF rfl rfl (by omega) ?_
      | refine k_gtr rfl rfl (fun hc => ?_) (fun hc => ?_)
      | refine k_geqT rfl rfl (by omega) ?_
      | refine k_geqF rfl rfl (by omega) ?_
      | refine k_geq rfl rfl (fun hc => ?_) (fun hc => ?_)
      | refine k_eqlT rfl rfl (by omega) ?_
      | refine k_eqlF rfl rfl (by omega) ?_
      | refine k_eql rfl rfl (fun hc => ?_) (fun hc => ?_)
      | refine k_neqT rfl rfl (by omega) ?_
      | refine k_neqF rfl rfl (by omega) ?_
      | refine k_neq rfl rfl (fun hc => ?_) (fun hc => ?_)
      | refine k_len rfl rfl ?_
      | refine k_ok rfl rfl ?_))
  refine w_loop (I39 h0 X O n c r xs os) (cnt n 20) (R39 h0 X O n (f39 n c) (v39 n r xs) (v39 n r os)) ⟨0, Nat.zero_le _, by simp [L39, scat, ints, splice], rfl⟩ (round39 h0 X O n c r xs os h1 hc hr hX hO lX lO rX rO) ?_
  rintro ex E' h' ⟨rfl, rfl, _, _, _, _, _, _, rfl⟩
  repeat' (first
    | refine w_seq ?_
    | refine w_seqN ?_
    | refine w_seqX ?_
    | refine w_seqR ?_
    | refine w_blk ?_
    | refine w_blkN ?_
    | refine w_blkX ?_
    | refine w_blkR ?_
    | refine w_skip ?_
    | refine w_ret ?_
    | refine w_exit ?_
    | refine w_ops ?_
    | refine w_opsD ?_
    | refine d_one ?_
    | refine d_nil ?_
    | ((refine i_cond ?_); first | refine w_condT rfl ?_ | refine w_condF rfl ?_)
    | ((refine i_nil ?_); first | refine d_same ?_ | refine d_ord ?_ | refine d_ext ⟨_, rfl⟩ ?_ | refine d_ext (extA _ _ _) ?_ | refine d_ext (by assumption) ?_ | refine w_end0 ?_ | refine w_end1 rfl ?_ | refine w_end2 rfl rfl ?_ | refine w_end3 rfl rfl rfl ?_ | refine w_end4 rfl rfl rfl rfl ?_ | refine w_end5 rfl rfl rfl rfl rfl ?_ | refine w_end6 rfl rfl rfl rfl rfl rfl ?_ | refine w_end7 rfl rfl rfl rfl rfl rfl rfl ?_ | refine w_end8 rfl rfl rfl rfl rfl rfl rfl rfl ?_ | refine w_end9 rfl rfl rfl rfl rfl rfl rfl rfl rfl ?_ | refine w_end10 rfl rfl rfl rfl rfl rfl rfl rfl rfl rfl ?_ | refine w_end11 rfl rfl rfl rfl rfl rfl rfl rfl rfl rfl rfl ?_ | refine w_end12 rfl rfl rfl rfl rfl rfl rfl rfl rfl rfl rfl rfl ?_ | refine w_end13 rfl rfl rfl rfl rfl rfl rfl rfl rfl rfl rfl rfl rfl ?_ | refine w_end14 rfl rfl rfl rfl rfl rfl rfl rfl rfl rfl rfl rfl rfl rfl ?_ | refine w_end15 rfl rfl rfl rfl rfl rfl rfl rfl rfl rfl rfl rfl rfl rfl rfl ?_ | refine w_end16 rfl rfl rfl rfl rfl rfl rfl rfl rfl rfl rfl rfl rfl rfl rfl rfl ?_)
    | ((refine i_cons ?_); first
      | refine k_ldAL rfl rfl ?_
      | refine k_stL rfl rfl rfl rfl rfl ?_
      | refine k_skip rfl ?_
      | refine k_skipU rfl ?_
      | refine k_want rfl ?_
      | refine k_mv rfl ?_
      | refine k_pickT rfl rfl ?_
      | refine k_pickF rfl rfl ?_
      | refine k_notT rfl ?_
      | refine k_notF rfl ?_
      | refine k_add rfl rfl (by omega) ?_
      | refine k_sub rfl rfl (by omega) ?_
      | refine k_mul rfl rfl (by omega) ?_
      | refine k_neg rfl (by omega) ?_
      | refine k_quo rfl rfl (by omega) ?_
      | refine k_rem rfl rfl (by omega) ?_
      | refine k_conv rfl (by omega) ?_
      | refine k_max rfl rfl ?_
      | refine k_min rfl rfl ?_
      | refine k_lssT rfl rfl (by omega) ?_
      | refine k_lssF rfl rfl (by omega) ?_
      | refine k_lss rfl rfl (fun hc => ?_) (fun hc => ?_)
      | refine k_leqT rfl rfl (by omega) ?_
      | refine k_leqF rfl rfl (by omega) ?_
      | refine k_leq rfl rfl (fun hc => ?_) (fun hc => ?_)
      | refine k_gtrT rfl rfl (by omega) ?_
      | refine k_gtrF rfl rfl (by omega) ?_
      | refine k_gtr rfl rfl (fun hc => ?_) (fun hc => ?_)
      | refine k_geqT rfl rfl (by omega) ?_
      | refine k_geqF rfl rfl (by omega) ?_
      | refine k_geq rfl rfl (fun hc => ?_) (fun hc => ?_)
      | refine k_eqlT rfl rfl (by omega) ?_
      | refine k_eqlF rfl rfl (by omega) ?_
      | refine k_eql rfl rfl (fun hc => ?_) (fun hc => ?_)
      | refine k_neqT rfl rfl (by omega) ?_
      | refine k_neqF rfl rfl (by omega) ?_
      | refine k_neq rfl rfl (fun hc => ?_) (fun hc => ?_)
      | refine k_len rfl rfl ?_
      | refine k_ok rfl rfl ?_))
  refine ⟨.inr rfl, oK_cell rfl (by rw [rdA]; rfl) ?_⟩
  obtain ⟨k, rfl⟩ := Int.eq_ofNat_of_zero_le hc.1
  rw [scat_shf (n := n) (c := k) lX.symm (f39 n k) (v39 n r xs) (fun i hi => f39_nat n k i) (fun i hi => rfl), scat_shf (n := n) (c := k) lO.symm (f39 n k) (v39 n r os) (fun i hi => f39_nat n k i) (fun i hi => rfl)]
  exact ⟨_, _, rfl, own_tail rfl (by rw [shf_len, lX]), own_tail rfl (by rw [shf_len, lO]), ⟨_, rfl⟩⟩

/-! ### The reference's Shift -/
theorem f39_mod (n : Nat) (c : Int) (i : Nat) : f39 n (c % n) i = f39 n c i := by
  unfold f39; rw [Int.add_emod_emod]
theorem v39_mod (n : Nat) (r : Int) (xs : List Int) (i : Nat) : v39 n (r % n) xs i = v39 n r xs i := by
  unfold v39; rw [Int.add_emod_emod]
def I28 (h0 : Heap) (X O : SV) (n : Nat) (c r : Int) (xs os : List Int) (E : Env) (h : Heap) : Prop := ∃ i : Nat, i ≤ n ∧ h = h0 ++ L39 h0 X O n (scat (zeros n) (f39 n (c % n)) (v39 n (r % n) xs) i) (scat (zeros n) (f39 n (c % n)) (v39 n (r % n) os) i) ∧
  E = [(1, some (.sc (.int .i64 c))), (2, some (.sc (.int .i64 r))), (3, some (.sc (.ptr (h0.length + 0) 0))), (6, some (.sc (.ptr (h0.length + 1) 0))), (7, some (.sc (.int .i64 n))), (8, some (.sc (.ptr (h0.length + 4) 0))), (9, some (.sc (.int .i64 i)))]
def R28 (h0 : Heap) (X O : SV) (n : Nat) (f : Nat → Nat) (v u : Nat → Int) (ex : Ex) (E : Env) (h : Heap) : Prop := ex = .ex 0 ∧ h = h0 ++ L39 h0 X O n (scat (zeros n) f v n) (scat (zeros n) f u n) ∧ ∃ a b c d e,
  E = [(1, a), (2, b), (3, c), (6, some (.sc (.ptr (h0.length + 1) 0))), (7, d), (8, some (.sc (.ptr (h0.length + 4) 0))), (9, e), (21, some (.sc (.bool false)))]

set_option maxHeartbeats 1000000 in
theorem round28 (hk : HK 42 = none) (h0 : Heap) (X O : SV) (n : Nat) (c r : Int) (xs os : List Int) (h1 : 0 < n ∧ n ≤ 1000) (hX : IsInts h0 X xs) (hO : IsInts h0 O os) (lX : xs.length = n) (lO : os.length = n)
    (rX : ∀ x ∈ xs, In01 n x) (rO : ∀ x ∈ os, In01 n x) (E : Env) (h : Heap) (hI : I28 h0 X O n c r xs os E h) :
    wA FT HK b28L0 (E.keep [1, 2, 3, 6, 7, 8, 9]) h (wRound (I28 h0 X O n c r xs os) (cnt n 9) (cnt n 9 E h) (R28 h0 X O n (f39 n (c % n)) (v39 n (r % n) xs) (v39 n (r % n) os))) := by
  obtain ⟨i, hi, rfl, rfl⟩ := hI
  by_cases hlt : i < n
  · have bx := rg_at rX (i := i) (by omega)
    have bo := rg_at rO (i := i) (by omega)
    have c1 : 0 ≤ c % n := Int.emod_nonneg _ (by omega)
    have c2 : c % n < n := Int.emod_lt_of_pos _ (by omega)
    have r1 : 0 ≤ r % n := Int.emod_nonneg _ (by omega)
    have r2 : r % n < n := Int.emod_lt_of_pos _ (by omega)
    have a1 : 0 ≤ ((i : Int) + c % n) % n := Int.emod_nonneg _ (by omega)
    have a2 : ((i : Int) + c % n) % n < n := Int.emod_lt_of_pos _ (by omega)
    obtain ⟨iX, oX, cX, rfl, hrX⟩ := IsInts.at (isA (L39 h0 X O n (scat (zeros n) (f39 n (c % n)) (v39 n (r % n) xs) i) (scat (zeros n) (f39 n (c % n)) (v39 n (r % n) os) i)) hX) (atN_get (xs := xs) (k := i) (by omega))
    obtain ⟨iO, oO, cO, rfl, hrO⟩ := IsInts.at (isA (L39 h0 (.slc iX oX xs.length cX) O n (scat (zeros n) (f39 n (c % n)) (v39 n (r % n) xs) (i + 1)) (scat (zeros n) (f39 n (c % n)) (v39 n (r % n) os) i)) hO) (atN_get (xs := os) (k := i) (by omega))
    have w1 : writeN (L39 h0 (.slc iX oX xs.length cX) (.slc iO oO os.length cO) n (scat (zeros n) (f39 n (c % n)) (v39 n (r % n) xs) i) (scat (zeros n) (f39 n (c % n)) (v39 n (r % n) os) i)) 2 (0 + (((i : Int) + c % n) % n).toNat * 1) [.int .i64 ((atN xs i + r % n) % n)] = some (L39 h0 (.slc iX oX xs.length cX) (.slc iO oO os.length cO) n (scat (zeros n) (f39 n (c % n)) (v39 n (r % n) xs) (i + 1)) (scat (zeros n) (f39 n (c % n)) (v39 n (r % n) os) i)) :=
      wrI (L := L39 _ _ _ _ _ _) rfl (by rw [scat_len, List.length_replicate]; omega) _
    have w2 : writeN (L39 h0 (.slc iX oX xs.length cX) (.slc iO oO os.length cO) n (scat (zeros n) (f39 n (c % n)) (v39 n (r % n) xs) (i + 1)) (scat (zeros n) (f39 n (c % n)) (v39 n (r % n) os) i)) 3 (0 + (((i : Int) + c % n) % n).toNat * 1) [.int .i64 ((atN os i + r % n) % n)] = some (L39 h0 (.slc iX oX xs.length cX) (.slc iO oO os.length cO) n (scat (zeros n) (f39 n (c % n)) (v39 n (r % n) xs) (i + 1)) (scat (zeros n) (f39 n (c % n)) (v39 n (r % n) os) (i + 1))) :=
      wrI (L := L39 _ _ _ _ _ _) rfl (by rw [scat_len, List.length_replicate]; omega) _
    repeat' (first
      | refine w_seq ?_
      | refine w_seqN ?_
      | refine w_seqX ?_
      | refine w_seqR ?_
      | refine w_blk ?_
      | refine w_blkN ?_
      | refine w_blkX ?_
      | refine w_blkR ?_
      | refine w_skip ?_
      | refine w_ret ?_
      | refine w_exit ?_
      | refine w_ops ?_
      | refine w_opsD ?_
      | refine d_one ?_
      | refine d_nil ?_
      | ((refine i_cond ?_); first | refine w_condT rfl ?_ | refine w_condF rfl ?_)
      | ((refine i_nil ?_); first | refine d_same ?_ | refine d_ord ?_ | refine d_ext ⟨_, rfl⟩ ?_ | refine d_ext (extA _ _ _) ?_ | refine d_ext (by assumption) ?_ | refine w_end0 ?_ | refine w_end1 rfl ?_ | refine w_end2 rfl rfl ?_ | refine w_end3 rfl rfl rfl ?_ | refine w_end4 rfl rfl rfl rfl ?_ | refine w_end5 rfl rfl rfl rfl rfl ?_ | refine w_end6 rfl rfl rfl rfl rfl rfl ?_ | refine w_end7 rfl rfl rfl rfl rfl rfl rfl ?_ | refine w_end8 rfl rfl rfl rfl rfl rfl rfl rfl ?_ | refine w_end9 rfl rfl rfl rfl rfl rfl rfl rfl rfl ?_ | refine w_end10 rfl rfl rfl rfl rfl rfl rfl rfl rfl rfl ?_ | refine w_end11 rfl rfl rfl rfl rfl rfl rfl rfl rfl rfl rfl ?_ | refine w_end12 rfl rfl rfl rfl rfl rfl rfl rfl rfl rfl rfl rfl ?_ | refine w_end13 rfl rfl rfl rfl rfl rfl rfl rfl rfl rfl rfl rfl rfl ?_ | refine w_end14 rfl rfl rfl rfl rfl rfl rfl rfl rfl rfl rfl rfl rfl rfl ?_ | refine w_end15 rfl rfl rfl rfl rfl rfl rfl rfl rfl rfl rfl rfl rfl rfl rfl ?_ | refine w_end16 rfl rfl rfl rfl rfl rfl rfl rfl rfl rfl rfl rfl rfl rfl rfl rfl ?_)
      | ((refine i_cons ?_); first
        | (refine k_call rfl (call42 hk _ _ _ (by omega)) ?_; rintro v h' ⟨rfl, rfl⟩)
        | refine k_ld rfl hrX ?_
        | refine k_ld rfl hrO ?_
        | refine k_ldL rfl rfl ?_
        | refine k_idxA rfl rfl (by omega) ?_
        | refine k_stL rfl rfl rfl rfl w1 ?_
        | refine k_stL rfl rfl rfl rfl w2 ?_
        | refine k_skip rfl ?_
        | refine k_skipU rfl ?_
        | refine k_want rfl ?_
        | refine k_mv rfl ?_
        | refine k_pickT rfl rfl ?_
        | refine k_pickF rfl rfl ?_
        | refine k_notT rfl ?_
        | refine k_notF rfl ?_
        | refine k_add rfl rfl (by omega) ?_
        | refine k_sub rfl rfl (by omega) ?_
        | refine k_mul rfl rfl (by omega) ?_
        | refine k_neg rfl (by omega) ?_
        | refine k_quo rfl rfl (by omega) ?_
        | refine k_rem rfl rfl (by omega) ?_
        | refine k_conv rfl (by omega) ?_
        | refine k_max rfl rfl ?_
        | refine k_min rfl rfl ?_
        | refine k_lssT rfl rfl (by omega) ?_
        | refine k_lssF rfl rfl (by omega) ?_
        | refine k_lss rfl rfl (fun hc => ?_) (fun hc => ?_)
        | refine k_leqT rfl rfl (by omega) ?_
        | refine k_leqF rfl rfl (by omega) ?_
        | refine k_leq rfl rfl (fun hc => ?_) (fun hc => ?_)
        | refine k_gtrT rfl rfl (by omega) ?_
        | refine k_gtrF rfl rfl (by omega) ?_
        | refine k_gtr rfl rfl (fun hc => ?_) (fun hc => ?_)
        | refine k_geqT rfl rfl (by omega) ?_
        | refine k_geqF rfl rfl (by omega) ?_
        | refine k_geq rfl rfl (fun hc => ?_) (fun hc => ?_)
        | refine k_eqlT rfl rfl (by omega) ?_
        | refine k_eqlF rfl rfl (by omega) ?_
        | refine k_eql rfl rfl (fun hc => ?_) (fun hc => ?_)
        | refine k_neqT rfl rfl (by omega) ?_
        | refine k_neqF rfl rfl (by omega) ?_
        | refine k_neq rfl rfl (fun hc => ?_) (fun hc => ?_)
        | refine k_len rfl rfl ?_
        | refine k_ok rfl rfl ?_))
    exact w_roundN ⟨i + 1, by omega, rfl, rfl⟩ (by simp [cnt, Env.get]; omega)
  · obtain rfl : i = n := by omega
    repeat' (first
      | refine w_seq ?_
      | refine w_seqN ?_
      | refine w_seqX ?_
      | refine w_seqR ?_
      | refine w_blk ?_
      | refine w_blkN ?_
      | refine w_blkX ?_
      | refine w_blkR ?_
      | refine w_skip ?_
      | refine w_ret ?_
      | refine w_exit ?_
      | refine w_ops ?_
      | refine w_opsD ?_
      | refine d_one ?_
      | refine d_nil ?_
      | ((refine i_cond ?_); first | refine w_condT rfl ?_ | refine w_condF rfl ?_)
      | ((refine i_nil ?_); first | refine d_same ?_ | refine d_ord ?_ | refine d_ext ⟨_, rfl⟩ ?_ | refine d_ext (extA _ _ _) ?_ | refine d_ext (by assumption) ?_ | refine w_end0 ?_ | refine w_end1 rfl ?_ | refine w_end2 rfl rfl ?_ | refine w_end3 rfl rfl rfl ?_ | refine w_end4 rfl rfl rfl rfl ?_ | refine w_end5 rfl rfl rfl rfl rfl ?_ | refine w_end6 rfl rfl rfl rfl rfl rfl ?_ | refine w_end7 rfl rfl rfl rfl rfl rfl rfl ?_ | refine w_end8 rfl rfl rfl rfl rfl rfl rfl rfl ?_ | refine w_end9 rfl rfl rfl rfl rfl rfl rfl rfl rfl ?_ | refine w_end10 rfl rfl rfl rfl rfl rfl rfl rfl rfl rfl ?_ | refine w_end11 rfl rfl rfl rfl rfl rfl rfl rfl rfl rfl rfl ?_ | refine w_end12 rfl rfl rfl rfl rfl rfl rfl rfl rfl rfl rfl rfl ?_ | refine w_end13 rfl rfl rfl rfl rfl rfl rfl rfl rfl rfl rfl rfl rfl ?_ | refine w_end14 rfl rfl rfl rfl rfl rfl rfl rfl rfl rfl rfl rfl rfl rfl ?_ | refine w_end15 rfl rfl rfl rfl rfl rfl rfl rfl rfl rfl rfl rfl rfl rfl rfl ?_ | refine w_end16 rfl rfl rfl rfl rfl rfl rfl rfl rfl rfl rfl rfl rfl rfl rfl rfl ?_)
      | ((refine i_cons ?_); first
        | refine k_skip rfl ?_
        | refine k_skipU rfl ?_
        | refine k_want rfl ?_
        | refine k_mv rfl ?_
        | refine k_pickT rfl rfl ?_
        | refine k_pickF rfl rfl ?_
        | refine k_notT rfl ?_
        | refine k_notF rfl ?_
        | refine k_add rfl rfl (by omega) ?_
        | refine k_sub rfl rfl (by omega) ?_
        | refine k_mul rfl rfl (by omega) ?_
        | refine k_neg rfl (by omega) ?_
        | refine k_quo rfl rfl (by omega) ?_
        | refine k_rem rfl rfl (by omega) ?_
        | refine k_conv rfl (by omega) ?_
        | refine k_max rfl rfl ?_
        | refine k_min rfl rfl ?_
        | refine k_lssT rfl rfl (by omega) ?_
        | refine k_lssF rfl rfl (by omega) ?_
        | refine k_lss rfl rfl (fun hc => ?_) (fun hc => ?_)
        | refine k_leqT rfl rfl (by omega) ?_
        | refine k_leqF rfl rfl (by omega) ?_
        | refine k_leq rfl rfl (fun hc => ?_) (fun hc => ?_)
        | refine k_gtrT rfl rfl (by omega) ?_
        | refine k_gtrF rfl rfl (by omega) ?_
        | refine k_gtr rfl rfl (fun hc => ?_) (fun hc => ?_)
        | refine k_geqT rfl rfl (by omega) ?_
        | refine k_geqF rfl rfl (by omega) ?_
        | refine k_geq rfl rfl (fun hc => ?_) (fun hc => ?_)
        | refine k_eqlT rfl rfl (by omega) ?_
        | refine k_eqlF rfl rfl (by omega) ?_
        | refine k_eql rfl rfl (fun hc => ?_) (fun hc => ?_)
        | refine k_neqT rfl rfl (by omega) ?_
        | refine k_neqF rfl rfl (by omega) ?_
        | refine k_neq rfl rfl (fun hc => ?_) (fun hc => ?_)
        | refine k_len rfl rfl ?_
        | refine k_ok rfl rfl ?_))
    exact w_roundX ⟨rfl, rfl, _, _, _, _, _, rfl⟩

set_option maxHeartbeats 1000000 in
theorem call28 (hk : HK 28 = none) (hk2 : HK 42 = none) (h0 : Heap) (X O : SV) (n : Nat) (c r : Int) (xs os : List Int) (h1 : 0 < n ∧ n ≤ 1000) (hX : IsInts h0 X xs) (hO : IsInts h0 O os) (lX : xs.length = n) (lO : os.length = n)
    (rX : ∀ x ∈ xs, In01 n x) (rO : ∀ x ∈ os, In01 n x) :
    ∃ v h', Cal FT HK 28 [.agg [X, O], .sc (.int .i64 c), .sc (.int .i64 r)] h0 v h' ∧ ∃ X' O', v = .agg [X', O'] ∧ IsInts h' X' (shf c r xs) ∧ IsInts h' O' (shf c r os) ∧ Ext h0 h' := by
  refine Cal.of (F := a28) hk rfl rfl ?_
  have hl1 := IsSl.len hX
  rw [lX] at hl1
  have hbd : n * (8 + 1) ≤ bigN := by simp [bigN]; omega
  repeat' (first
    | refine w_seq ?_
    | refine w_seqN ?_
    | refine w_seqX ?_
    | refine w_seqR ?_
    | refine w_blk ?_
    | refine w_blkN ?_
    | refine w_blkX ?_
    | refine w_blkR ?_
    | refine w_skip ?_
    | refine w_ret ?_
    | refine w_exit ?_
    | refine w_ops ?_
    | refine w_opsD ?_
    | refine d_one ?_
    | refine d_nil ?_
    | ((refine i_cond ?_); first | refine w_condT rfl ?_ | refine w_condF rfl ?_)
    | ((refine i_nil ?_); first | refine d_same ?_ | refine d_ord ?_ | refine d_ext ⟨_, rfl⟩ ?_ | refine d_ext (extA _ _ _) ?_ | refine d_ext (by assumption) ?_ | refine w_end0 ?_ | refine w_end1 rfl ?_ | refine w_end2 rfl rfl ?_ | refine w_end3 rfl rfl rfl ?_ | refine w_end4 rfl rfl rfl rfl ?_ | refine w_end5 rfl rfl rfl rfl rfl ?_ | refine w_end6 rfl rfl rfl rfl rfl rfl ?_ | refine w_end7 rfl rfl rfl rfl rfl rfl rfl ?_ | refine w_end8 rfl rfl rfl rfl rfl rfl rfl rfl ?_ | refine w_end9 rfl rfl rfl rfl rfl rfl rfl rfl rfl ?_ | refine w_end10 rfl rfl rfl rfl rfl rfl rfl rfl rfl rfl ?_ | refine w_end11 rfl rfl rfl rfl rfl rfl rfl rfl rfl rfl rfl ?_ | refine w_end12 rfl rfl rfl rfl rfl rfl rfl rfl rfl rfl rfl rfl ?_ | refine w_end13 rfl rfl rfl rfl rfl rfl rfl rfl rfl rfl rfl rfl rfl ?_ | refine w_end14 rfl rfl rfl rfl rfl rfl rfl rfl rfl rfl rfl rfl rfl rfl ?_ | refine w_end15 rfl rfl rfl rfl rfl rfl rfl rfl rfl rfl rfl rfl rfl rfl rfl ?_ | refine w_end16 rfl rfl rfl rfl rfl rfl rfl rfl rfl rfl rfl rfl rfl rfl rfl rfl ?_)
    | ((refine i_cons ?_); first
      | refine k_box0 rfl rfl ?_
      | refine k_newL ?_
      | refine k_ldL rfl rfl ?_
      | refine k_len rfl hl1 ?_
      | refine k_mkL rfl rfl hbd ?_
      | refine k_bld rfl rfl ?_
      | refine k_stL rfl rfl rfl rfl rfl ?_
      | refine k_skip rfl ?_
      | refine k_skipU rfl ?_
      | refine k_want rfl ?_
      | refine k_mv rfl ?_
      | refine k_pickT rfl rfl ?_
      | refine k_pickF rfl rfl ?_
      | refine k_notT rfl ?_
      | refine k_notF rfl ?_
      | refine k_add rfl rfl (by omega) ?_
      | refine k_sub rfl rfl (by omega) ?_
      | refine k_mul rfl rfl (by omega) ?_
      | refine k_neg rfl (by omega) ?_
      | refine k_quo rfl rfl (by omega) ?_
      | refine k_rem rfl rfl (by omega) ?_
      | refine k_conv rfl (by omega) ?_
      | refine k_max rfl rfl ?_
      | refine k_min rfl rfl ?_
      | refine k_lssT rfl rfl (by omega) ?_
      | refine k_lssF rfl rfl (by omega) ?_
      | refine k_lss rfl rfl (fun hc => ?_) (fun hc => ?_)
      | refine k_leqT rfl rfl (by omega) ?_
      | refine k_leqF rfl rfl (by omega) ?_
      | refine k_leq rfl rfl (fun hc => ?_) (fun hc => ?_)
      | refine k_gtrT rfl rfl (by omega) ?_
      | refine k_gtrF rfl rfl (by omega) ?_
      | refine k_gtr rfl rfl (fun hc => ?_) (fun hc => ?_)
      | refine k_geqT rfl rfl (by omega) ?_
      | refine k_geqF rfl rfl (by omega) ?_
      | refine k_geq rfl rfl (fun hc => ?_) (fun hc => ?_)
      | refine k_eqlT rfl rfl (by omega) ?_
      | refine k_eqlF rfl rfl (by omega) ?_
      | refine k_eql rfl rfl (fun hc => ?_) (fun hc => ?_)
      | refine k_neqT rfl rfl (by omega) ?_
      | refine k_neqF rfl rfl (by omega) ?_
      | refine k_neq rfl rfl (fun hc => ?_) (fun hc => ?_)
      | refine k_len rfl rfl ?_
      | refine k_ok rfl rfl ?_))
  refine w_loop (I28 h0 X O n c r xs os) (cnt n 9) (R28 h0 X O n (f39 n (c % n)) (v39 n (r % n) xs) (v39 n (r % n) os)) ⟨0, Nat.zero_le _, by simp [L39, scat, ints, splice], rfl⟩ (round28 hk2 h0 X O n c r xs os h1 hX hO lX lO rX rO) ?_
  rintro ex E' h' ⟨rfl, rfl, _, _, _, _, _, rfl⟩
  repeat' (first
    | refine w_seq ?_
    | refine w_seqN ?_
    | refine w_seqX ?_
    | refine w_seqR ?_
    | refine w_blk ?_
    | refine w_blkN ?_
    | refine w_blkX ?_
    | refine w_blkR ?_
    | refine w_skip ?_
    | refine w_ret ?_
    | refine w_exit ?_
    | refine w_ops ?_
    | refine w_opsD ?_
    | refine d_one ?_
    | refine d_nil ?_
    | ((refine i_cond ?_); first | refine w_condT rfl ?_ | refine w_condF rfl ?_)
    | ((refine i_nil ?_); first | refine d_same ?_ | refine d_ord ?_ | refine d_ext ⟨_, rfl⟩ ?_ | refine d_ext (extA _ _ _) ?_ | refine d_ext (by assumption) ?_ | refine w_end0 ?_ | refine w_end1 rfl ?_ | refine w_end2 rfl rfl ?_ | refine w_end3 rfl rfl rfl ?_ | refine w_end4 rfl rfl rfl rfl ?_ | refine w_end5 rfl rfl rfl rfl rfl ?_ | refine w_end6 rfl rfl rfl rfl rfl rfl ?_ | refine w_end7 rfl rfl rfl rfl rfl rfl rfl ?_ | refine w_end8 rfl rfl rfl rfl rfl rfl rfl rfl ?_ | refine w_end9 rfl rfl rfl rfl rfl rfl rfl rfl rfl ?_ | refine w_end10 rfl rfl rfl rfl rfl rfl rfl rfl rfl rfl ?_ | refine w_end11 rfl rfl rfl rfl rfl rfl rfl rfl rfl rfl rfl ?_ | refine w_end12 rfl rfl rfl rfl rfl rfl rfl rfl rfl rfl rfl rfl ?_ | refine w_end13 rfl rfl rfl rfl rfl rfl rfl rfl rfl rfl rfl rfl rfl ?_ | refine w_end14 rfl rfl rfl rfl rfl rfl rfl rfl rfl rfl rfl rfl rfl rfl ?_ | refine w_end15 rfl rfl rfl rfl rfl rfl rfl rfl rfl rfl rfl rfl rfl rfl rfl ?_ | refine w_end16 rfl rfl rfl rfl rfl rfl rfl rfl rfl rfl rfl rfl rfl rfl rfl rfl ?_)
    | ((refine i_cons ?_); first
      | refine k_ldAL rfl rfl ?_
      | refine k_stL rfl rfl rfl rfl rfl ?_
      | refine k_skip rfl ?_
      | refine k_skipU rfl ?_
      | refine k_want rfl ?_
      | refine k_mv rfl ?_
      | refine k_pickT rfl rfl ?_
      | refine k_pickF rfl rfl ?_
      | refine k_notT rfl ?_
      | refine k_notF rfl ?_
      | refine k_add rfl rfl (by omega) ?_
      | refine k_sub rfl rfl (by omega) ?_
      | refine k_mul rfl rfl (by omega) ?_
      | refine k_neg rfl (by omega) ?_
      | refine k_quo rfl rfl (by omega) ?_
      | refine k_rem rfl rfl (by omega) ?_
      | refine k_conv rfl (by omega) ?_
      | refine k_max rfl rfl ?_
      | refine k_min rfl rfl ?_
      | refine k_lssT rfl rfl (by omega) ?_
      | refine k_lssF rfl rfl (by omega) ?_
      | refine k_lss rfl rfl (fun hc => ?_) (fun hc => ?_)
      | refine k_leqT rfl rfl (by omega) ?_
      | refine k_leqF rfl rfl (by omega) ?_
      | refine k_leq rfl rfl (fun hc => ?_) (fun hc => ?_)
      | refine k_gtrT rfl rfl (by omega) ?_
      | refine k_gtrF rfl rfl (by omega) ?_
      | refine k_gtr rfl rfl (fun hc => ?_) (fun hc => ?_)
      | refine k_geqT rfl rfl (by omega) ?_
      | refine k_geqF rfl rfl (by omega) ?_
      | refine k_geq rfl rfl (fun hc => ?_) (fun hc => ?_)
      | refine k_eqlT rfl rfl (by omega) ?_
      | refine k_eqlF rfl rfl (by omega) ?_
      | refine k_eql rfl rfl (fun hc => ?_) (fun hc => ?_)
      | refine k_neqT rfl rfl (by omega) ?_
      | refine k_neqF rfl rfl (by omega) ?_
      | refine k_neq rfl rfl (fun hc => ?_) (fun hc => ?_)
      | refine k_len rfl rfl ?_
      | refine k_ok rfl rfl ?_))
  refine ⟨.inr rfl, oK_cell rfl (by rw [rdA]; rfl) ?_⟩
  have c1 : 0 ≤ c % n := Int.emod_nonneg _ (by omega)
  obtain ⟨k, hk'⟩ := Int.eq_ofNat_of_zero_le c1
  have e : ∀ zs : List Int, zs.length = n → scat (zeros n) (f39 n (c % n)) (v39 n (r % n) zs) n = shf c r zs := fun zs hz => by
    rw [scat_shf (n := n) (c := k) (r := r % n) hz.symm (f39 n (c % n)) (v39 n (r % n) zs) (fun i hi => by rw [hk']; exact f39_nat n k i) (fun i hi => rfl)]
    refine shf_mod ?_ ?_
    · rw [← hk', hz, Int.emod_emod_of_dvd _ (Int.dvd_refl _)]
    · rw [hz, Int.emod_emod_of_dvd _ (Int.dvd_refl _)]
  rw [e xs lX, e os lO]
  exact ⟨_, _, rfl, own_tail rfl (by rw [shf_len, lX]), own_tail rfl (by rw [shf_len, lO]), ⟨_, rfl⟩⟩
end Go.Proofs.YtadelcikpkhclaaDoor
