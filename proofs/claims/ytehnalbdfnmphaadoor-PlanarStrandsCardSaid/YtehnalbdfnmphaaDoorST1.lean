/- The law PlanarStrands, reckoned. -/
import Derived.Test.YtehnalbdfnmphaaDoorSP
import Derived.Test.YtehnalbdfnmphaaDoorF4
import Derived.Test.YtehnalbdfnmphaaDoorT5
namespace Go.Proofs.YtehnalbdfnmphaaDoor
open Go.Ab
set_option linter.unusedVariables false
set_option linter.unusedSimpArgs false
set_option maxRecDepth 20000
set_option maxHeartbeats 4000000
attribute [local irreducible] wOps wA wSeq wBlk wRound wRoundI wOpsD

section
variable {FT : FuncId → Option AFun} {HK : FuncId → Option Hook} {E : Env} {h h1 : Heap} {K : Env → Heap → Prop} {dst : Option Nat} {r : List AOp} {x y : AO}
/-- copy. -/
theorem k_cpy {esz id off d id2 off2 m : Nat} {c1 c2 : Option Nat} {vs : List SV} (hx : evS E x = some (.slc id off d c1)) (hy : evS E y = some (.slc id2 off2 m c2)) (hp : 0 < min m d) (hr : readN h id2 off2 (min m d * esz) = some vs) (hw' : writeN h id off vs = some h1)
    (hw : wOps FT HK r (bindE dst (some (.sc (.int .i64 (min m d : Nat)))) E) h1 K) : wOps FT HK (⟨dst, .cpy esz x y, none⟩ :: r) E h K :=
  op_ok rfl rfl (by simp only [step1, hx, hy, if_pos hp, hr, Option.bind_some, hw', Option.map_some]) hw
end

/-! ### The labels copied -/
section
variable (hA : Heap) (p u : SV) (xs lb : List Int)
def I8a (E : Env) (h : Heap) : Prop := ∃ (c : Nat) (T : Heap), c ≤ xs.length ∧ h = hA ++ (SB (lbT lb (4 * xs.length) c) :: T) ∧
  E = [(1, some (.sc p)), (5, some (.sc u)), (6, some (.sc (.slc (hA.length + 0) 0 (4 * xs.length) (some (4 * xs.length))))), (38, some (.sc (.int .i64 (xs.length : Nat)))), (39, some (.sc (.int .i64 (c : Nat))))]
def R8a (ex : Ex) (E : Env) (h : Heap) : Prop := ex = .ex 0 ∧ ∃ (T : Heap), h = hA ++ (SB (lbT lb (4 * xs.length) xs.length) :: T) ∧ ∃ a b c,
  E = [(1, some (.sc p)), (5, some (.sc u)), (6, some (.sc (.slc (hA.length + 0) 0 (4 * xs.length) (some (4 * xs.length))))), (38, a), (39, b), (40, c)]
end
theorem round8a (hA : Heap) (b : Nat) (u s m : SV) (l : Int) (xs lb : List Int) (hbx : Blk.At hA b [s, m, .int .i64 l]) (hx : IsInts hA s xs) (hu : IsSl hA u 1 (xs.length + 2) ((linesT xs lb l).map tb)) (hs : ∀ x ∈ xs, Sgn x) (hn : xs.length ≤ 64) (hL : LabR lb (4 * xs.length)) (E : Env) (h : Heap) (hI : I8a hA (.ptr b 0) u xs lb E h) :
    wA FT HKt b8L0 (E.keep [1, 5, 6, 38, 39]) h (wRound (I8a hA (.ptr b 0) u xs lb) (cntV xs.length 39) (cntV xs.length 39 E h) (R8a hA (.ptr b 0) u xs lb)) := by
  obtain ⟨c, T, hc, rfl, rfl⟩ := hI
  by_cases hlt : c < xs.length
  · obtain ⟨x, hxx⟩ : ∃ x, xs[c]? = some x := ⟨_, List.getElem?_eq_getElem hlt⟩
    have hgd := getD_at hxx
    have hsx := hs x (List.mem_of_getElem? hxx)
    generalize hH : hA ++ (SB (lbT lb (4 * xs.length) c) :: T) = H at *
    have eH : Ext hA H := ⟨_, hH.symm⟩
    have eH2 : Ext hA (H ++ [SB (wsR xs lb c)]) := eH.app _
    obtain ⟨id, off, cap, rfl, hr⟩ := IsInts.at (IsSl.ext hx eH2) hxx
    have hr' : ∀ {j : Int}, j = (c : Nat) → readN (H ++ [SB (wsR xs lb c)]) id (off + j.toNat * 1) 1 = some [.int .i64 x] := fun hj => by subst hj; rw [Int.toNat_natCast]; exact hr
    have hu' : IsSl H u 1 ((linesT xs lb l).map tb).length ((linesT xs lb l).map tb) := by rw [List.length_map, linesT_len]; exact IsSl.ext hu eH
    obtain ⟨idu, offu, capu, eu, hru⟩ := hu'.at (i := c) (x := tb (rowK xs lb c 4)) (by simp [linesT_row (lb := lb) (l := l) hlt])
    rw [List.length_map, linesT_len] at eu
    subst eu
    have hru' : ∀ {j : Int}, j = (c : Nat) → readN H idu (offu + j.toNat * 1) 1 = some [tb (rowK xs lb c 4)] := fun hj => by subst hj; rw [Int.toNat_natCast]; exact hru
    have hb2 := hbx.ext eH2
    obtain ⟨hspl, -⟩ := wsR_spl (xs := xs) hL (c := c) (by omega)
    have rl : (rowK xs lb c 4).length ≤ 1000000 := by
      have hM : ∀ j, j < 4 → (Lib.itoa (lb.getD (4 * c + j) 0)).length ≤ 21 := fun j hj => itoa_len (by have := hL (4 * c + j) (by omega); omega)
      have := hM 0 (by omega)
      have := hM 1 (by omega)
      have := hM 2 (by omega)
      have := hM 3 (by omega)
      have hsg : (sgT (xs.getD c 0)).length = 1 := by unfold sgT; split <;> rfl
      rw [rowK_form]
      simp only [List.length_append, List.length_cons]
      omega
    have k1 := split_call H (rowK xs lb c 4) 32 rl
    rw [hspl] at k1
    have hw0 : readN [SB (wsR xs lb c)] 0 (0 + ((0 : Int)).toNat * 1) 1 = some [tb (sgT (xs.getD c 0))] := rfl
    rw [hgd] at hw0
    have hsl1 : ∀ {j : Int}, j = ((4 * c : Nat) : Int) → slice1 j.toNat (((4 * xs.length : Nat) : Int)).toNat (.slc (hA.length + 0) 0 (4 * xs.length) (some (4 * xs.length))) = some (.slc (hA.length + 0) (0 + 4 * c) (4 * xs.length - 4 * c) (some (4 * xs.length - 4 * c))) := fun hj => by
      subst hj
      rw [Int.toNat_natCast, Int.toNat_natCast]
      simp only [slice1]
      rw [if_pos (by omega)]
      rfl
    have hmin : min 4 (4 * xs.length - 4 * c) = 4 := by omega
    have hcr : readN (H ++ [SB (wsR xs lb c)]) (H.length + 0) (0 + 1) (min 4 (4 * xs.length - 4 * c) * 1) = some (((wsR xs lb c).drop 1).map tb) := by
      rw [hmin, rdA]; rfl
    have hcw : writeN (H ++ [SB (wsR xs lb c)]) (hA.length + 0) (0 + 4 * c) (((wsR xs lb c).drop 1).map tb) = some (hA ++ (SB (lbT lb (4 * xs.length) (c + 1)) :: (T ++ [SB (wsR xs lb c)]))) := by
      rw [← hH, List.append_assoc, wrA]
      simp only [List.cons_append, writeN, List.getElem?_cons_zero]
      rw [if_pos (by simp [lbT_len, wsR]; omega), Nat.zero_add, lbT_next (by omega)]
      rfl
    rcases hsx with rfl | rfl
    · have e1 : decide (sgT 1 = [43]) = true := by decide
      repeat' (first | refine w_seq ?_ | refine w_seqN ?_ | refine w_seqX ?_ | refine w_seqR ?_ | refine w_blk ?_ | refine w_blkN ?_ | refine w_blkX ?_ | refine w_blkR ?_ | refine w_skip ?_ | refine w_ret ?_ | refine w_exit ?_ | refine w_ops ?_ | refine w_opsD ?_ | refine d_one ?_ | refine d_nil ?_ | (refine w_blkY ?_ ?_; rfl) | ((refine i_cond ?_); first | refine w_condT rfl ?_ | refine w_condF rfl ?_) | ((refine i_nil ?_); first | refine d_same ?_ | refine d_ord ?_ | refine d_ext ⟨_, rfl⟩ ?_ | refine d_ext (extA _ _ _) ?_ | refine d_ext (by assumption) ?_ | refine w_end0 ?_ | refine w_end1 rfl ?_ | refine w_end2 rfl rfl ?_ | refine w_end3 rfl rfl rfl ?_ | refine w_end4 rfl rfl rfl rfl ?_ | refine w_end5 rfl rfl rfl rfl rfl ?_ | refine w_end6 rfl rfl rfl rfl rfl rfl ?_ | refine w_end7 rfl rfl rfl rfl rfl rfl rfl ?_ | refine w_end8 rfl rfl rfl rfl rfl rfl rfl rfl ?_ | refine w_end9 rfl rfl rfl rfl rfl rfl rfl rfl rfl ?_ | refine w_end10 rfl rfl rfl rfl rfl rfl rfl rfl rfl rfl ?_ | refine w_end11 rfl rfl rfl rfl rfl rfl rfl rfl rfl rfl rfl ?_ | refine w_end12 rfl rfl rfl rfl rfl rfl rfl rfl rfl rfl rfl rfl ?_ | refine w_end13 rfl rfl rfl rfl rfl rfl rfl rfl rfl rfl rfl rfl rfl ?_ | refine w_end14 rfl rfl rfl rfl rfl rfl rfl rfl rfl rfl rfl rfl rfl rfl ?_ | refine w_end15 rfl rfl rfl rfl rfl rfl rfl rfl rfl rfl rfl rfl rfl rfl rfl ?_ | refine w_end16 rfl rfl rfl rfl rfl rfl rfl rfl rfl rfl rfl rfl rfl rfl rfl rfl ?_) | ((refine i_cons ?_); first | refine k_len (n := 5) rfl rfl ?_ | refine k_idxA (j := 0) rfl rfl (by decide) ?_ | refine k_idxA (j := (c : Int)) rfl rfl (by omega) ?_ | refine k_ld rfl (hru' rfl) ?_ | refine k_ld rfl (hr' rfl) ?_ | (refine k_call rfl k1 ?_; rintro v h3 ⟨rfl, rfl⟩) | refine k_ldL rfl hw0 ?_ | refine k_seql rfl (show _ = some (tb [43]) from rfl) e1 ?_ | refine k_fldA rfl ?_ | refine k_ldb rfl hb2 rfl ?_ | refine k_beq rfl rfl ?_ | refine k_from rfl rfl rfl (by omega) (hsl1 (by omega)) ?_ | refine k_from (m := 1) (s' := .slc (H.length + 0) (0 + 1) 4 (some 4)) rfl rfl rfl (by decide) rfl ?_ | refine k_cpy rfl rfl (by omega) hcr hcw ?_ | refine k_skip rfl ?_ | refine k_skipU rfl ?_ | refine k_want rfl ?_ | refine k_mv rfl ?_ | refine k_pickT rfl rfl ?_ | refine k_pickF rfl rfl ?_ | refine k_notT rfl ?_ | refine k_notF rfl ?_ | refine k_add rfl rfl (by omega) ?_ | refine k_sub rfl rfl (by omega) ?_ | refine k_mul rfl rfl (by omega) ?_ | refine k_neg rfl (by omega) ?_ | refine k_quo rfl rfl (by omega) ?_ | refine k_rem rfl rfl (by omega) ?_ | refine k_conv rfl (by omega) ?_ | refine k_max rfl rfl ?_ | refine k_min rfl rfl ?_ | refine k_lssT rfl rfl (by omega) ?_ | refine k_lssF rfl rfl (by omega) ?_ | refine k_lss rfl rfl (fun hc => ?_) (fun hc => ?_) | refine k_leqT rfl rfl (by omega) ?_ | refine k_leqF rfl rfl (by omega) ?_ | refine k_leq rfl rfl (fun hc => ?_) (fun hc => ?_) | refine k_gtrT rfl rfl (by omega) ?_ | refine k_gtrF rfl rfl (by omega) ?_ | refine k_gtr rfl rfl (fun hc => ?_) (fun hc => ?_) | refine k_geqT rfl rfl (by omega) ?_ | refine k_geqF rfl rfl (by omega) ?_ | refine k_geq rfl rfl (fun hc => ?_) (fun hc => ?_) | refine k_eqlT rfl rfl (by omega) ?_ | refine k_eqlF rfl rfl (by omega) ?_ | refine k_eql rfl rfl (fun hc => ?_) (fun hc => ?_) | refine k_neqT rfl rfl (by omega) ?_ | refine k_neqF rfl rfl (by omega) ?_ | refine k_neq rfl rfl (fun hc => ?_) (fun hc => ?_) | refine k_len rfl rfl ?_ | refine k_ok rfl rfl ?_))
      exact w_roundN ⟨c + 1, _, by omega, rfl, rfl⟩ (by simp [cntV, Env.get]; omega)
    · have e1 : decide (sgT (-1) = [43]) = false := by decide
      repeat' (first | refine w_seq ?_ | refine w_seqN ?_ | refine w_seqX ?_ | refine w_seqR ?_ | refine w_blk ?_ | refine w_blkN ?_ | refine w_blkX ?_ | refine w_blkR ?_ | refine w_skip ?_ | refine w_ret ?_ | refine w_exit ?_ | refine w_ops ?_ | refine w_opsD ?_ | refine d_one ?_ | refine d_nil ?_ | (refine w_blkY ?_ ?_; rfl) | ((refine i_cond ?_); first | refine w_condT rfl ?_ | refine w_condF rfl ?_) | ((refine i_nil ?_); first | refine d_same ?_ | refine d_ord ?_ | refine d_ext ⟨_, rfl⟩ ?_ | refine d_ext (extA _ _ _) ?_ | refine d_ext (by assumption) ?_ | refine w_end0 ?_ | refine w_end1 rfl ?_ | refine w_end2 rfl rfl ?_ | refine w_end3 rfl rfl rfl ?_ | refine w_end4 rfl rfl rfl rfl ?_ | refine w_end5 rfl rfl rfl rfl rfl ?_ | refine w_end6 rfl rfl rfl rfl rfl rfl ?_ | refine w_end7 rfl rfl rfl rfl rfl rfl rfl ?_ | refine w_end8 rfl rfl rfl rfl rfl rfl rfl rfl ?_ | refine w_end9 rfl rfl rfl rfl rfl rfl rfl rfl rfl ?_ | refine w_end10 rfl rfl rfl rfl rfl rfl rfl rfl rfl rfl ?_ | refine w_end11 rfl rfl rfl rfl rfl rfl rfl rfl rfl rfl rfl ?_ | refine w_end12 rfl rfl rfl rfl rfl rfl rfl rfl rfl rfl rfl rfl ?_ | refine w_end13 rfl rfl rfl rfl rfl rfl rfl rfl rfl rfl rfl rfl rfl ?_ | refine w_end14 rfl rfl rfl rfl rfl rfl rfl rfl rfl rfl rfl rfl rfl rfl ?_ | refine w_end15 rfl rfl rfl rfl rfl rfl rfl rfl rfl rfl rfl rfl rfl rfl rfl ?_ | refine w_end16 rfl rfl rfl rfl rfl rfl rfl rfl rfl rfl rfl rfl rfl rfl rfl rfl ?_) | ((refine i_cons ?_); first | refine k_len (n := 5) rfl rfl ?_ | refine k_idxA (j := 0) rfl rfl (by decide) ?_ | refine k_idxA (j := (c : Int)) rfl rfl (by omega) ?_ | refine k_ld rfl (hru' rfl) ?_ | refine k_ld rfl (hr' rfl) ?_ | (refine k_call rfl k1 ?_; rintro v h3 ⟨rfl, rfl⟩) | refine k_ldL rfl hw0 ?_ | refine k_seql rfl (show _ = some (tb [43]) from rfl) e1 ?_ | refine k_fldA rfl ?_ | refine k_ldb rfl hb2 rfl ?_ | refine k_beq rfl rfl ?_ | refine k_from rfl rfl rfl (by omega) (hsl1 (by omega)) ?_ | refine k_from (m := 1) (s' := .slc (H.length + 0) (0 + 1) 4 (some 4)) rfl rfl rfl (by decide) rfl ?_ | refine k_cpy rfl rfl (by omega) hcr hcw ?_ | refine k_skip rfl ?_ | refine k_skipU rfl ?_ | refine k_want rfl ?_ | refine k_mv rfl ?_ | refine k_pickT rfl rfl ?_ | refine k_pickF rfl rfl ?_ | refine k_notT rfl ?_ | refine k_notF rfl ?_ | refine k_add rfl rfl (by omega) ?_ | refine k_sub rfl rfl (by omega) ?_ | refine k_mul rfl rfl (by omega) ?_ | refine k_neg rfl (by omega) ?_ | refine k_quo rfl rfl (by omega) ?_ | refine k_rem rfl rfl (by omega) ?_ | refine k_conv rfl (by omega) ?_ | refine k_max rfl rfl ?_ | refine k_min rfl rfl ?_ | refine k_lssT rfl rfl (by omega) ?_ | refine k_lssF rfl rfl (by omega) ?_ | refine k_lss rfl rfl (fun hc => ?_) (fun hc => ?_) | refine k_leqT rfl rfl (by omega) ?_ | refine k_leqF rfl rfl (by omega) ?_ | refine k_leq rfl rfl (fun hc => ?_) (fun hc => ?_) | refine k_gtrT rfl rfl (by omega) ?_ | refine k_gtrF rfl rfl (by omega) ?_ | refine k_gtr rfl rfl (fun hc => ?_) (fun hc => ?_) | refine k_geqT rfl rfl (by omega) ?_ | refine k_geqF rfl rfl (by omega) ?_ | refine k_geq rfl rfl (fun hc => ?_) (fun hc => ?_) | refine k_eqlT rfl rfl (by omega) ?_ | refine k_eqlF rfl rfl (by omega) ?_ | refine k_eql rfl rfl (fun hc => ?_) (fun hc => ?_) | refine k_neqT rfl rfl (by omega) ?_ | refine k_neqF rfl rfl (by omega) ?_ | refine k_neq rfl rfl (fun hc => ?_) (fun hc => ?_) | refine k_len rfl rfl ?_ | refine k_ok rfl rfl ?_))
      exact w_roundN ⟨c + 1, _, by omega, rfl, rfl⟩ (by simp [cntV, Env.get]; omega)
  · have : c = xs.length := by omega
    subst this
    repeat' (first | refine w_seq ?_ | refine w_seqN ?_ | refine w_seqX ?_ | refine w_seqR ?_ | refine w_blk ?_ | refine w_blkN ?_ | refine w_blkX ?_ | refine w_blkR ?_ | refine w_skip ?_ | refine w_ret ?_ | refine w_exit ?_ | refine w_ops ?_ | refine w_opsD ?_ | refine d_one ?_ | refine d_nil ?_ | (refine w_blkY ?_ ?_; rfl) | ((refine i_cond ?_); first | refine w_condT rfl ?_ | refine w_condF rfl ?_) | ((refine i_nil ?_); first | refine d_same ?_ | refine d_ord ?_ | refine d_ext ⟨_, rfl⟩ ?_ | refine d_ext (extA _ _ _) ?_ | refine d_ext (by assumption) ?_ | refine w_end0 ?_ | refine w_end1 rfl ?_ | refine w_end2 rfl rfl ?_ | refine w_end3 rfl rfl rfl ?_ | refine w_end4 rfl rfl rfl rfl ?_ | refine w_end5 rfl rfl rfl rfl rfl ?_ | refine w_end6 rfl rfl rfl rfl rfl rfl ?_ | refine w_end7 rfl rfl rfl rfl rfl rfl rfl ?_ | refine w_end8 rfl rfl rfl rfl rfl rfl rfl rfl ?_ | refine w_end9 rfl rfl rfl rfl rfl rfl rfl rfl rfl ?_ | refine w_end10 rfl rfl rfl rfl rfl rfl rfl rfl rfl rfl ?_ | refine w_end11 rfl rfl rfl rfl rfl rfl rfl rfl rfl rfl rfl ?_ | refine w_end12 rfl rfl rfl rfl rfl rfl rfl rfl rfl rfl rfl rfl ?_ | refine w_end13 rfl rfl rfl rfl rfl rfl rfl rfl rfl rfl rfl rfl rfl ?_ | refine w_end14 rfl rfl rfl rfl rfl rfl rfl rfl rfl rfl rfl rfl rfl rfl ?_ | refine w_end15 rfl rfl rfl rfl rfl rfl rfl rfl rfl rfl rfl rfl rfl rfl rfl ?_ | refine w_end16 rfl rfl rfl rfl rfl rfl rfl rfl rfl rfl rfl rfl rfl rfl rfl rfl ?_) | ((refine i_cons ?_); first | refine k_skip rfl ?_ | refine k_skipU rfl ?_ | refine k_want rfl ?_ | refine k_mv rfl ?_ | refine k_pickT rfl rfl ?_ | refine k_pickF rfl rfl ?_ | refine k_notT rfl ?_ | refine k_notF rfl ?_ | refine k_add rfl rfl (by omega) ?_ | refine k_sub rfl rfl (by omega) ?_ | refine k_mul rfl rfl (by omega) ?_ | refine k_neg rfl (by omega) ?_ | refine k_quo rfl rfl (by omega) ?_ | refine k_rem rfl rfl (by omega) ?_ | refine k_conv rfl (by omega) ?_ | refine k_max rfl rfl ?_ | refine k_min rfl rfl ?_ | refine k_lssT rfl rfl (by omega) ?_ | refine k_lssF rfl rfl (by omega) ?_ | refine k_lss rfl rfl (fun hc => ?_) (fun hc => ?_) | refine k_leqT rfl rfl (by omega) ?_ | refine k_leqF rfl rfl (by omega) ?_ | refine k_leq rfl rfl (fun hc => ?_) (fun hc => ?_) | refine k_gtrT rfl rfl (by omega) ?_ | refine k_gtrF rfl rfl (by omega) ?_ | refine k_gtr rfl rfl (fun hc => ?_) (fun hc => ?_) | refine k_geqT rfl rfl (by omega) ?_ | refine k_geqF rfl rfl (by omega) ?_ | refine k_geq rfl rfl (fun hc => ?_) (fun hc => ?_) | refine k_eqlT rfl rfl (by omega) ?_ | refine k_eqlF rfl rfl (by omega) ?_ | refine k_eql rfl rfl (fun hc => ?_) (fun hc => ?_) | refine k_neqT rfl rfl (by omega) ?_ | refine k_neqF rfl rfl (by omega) ?_ | refine k_neq rfl rfl (fun hc => ?_) (fun hc => ?_) | refine k_len rfl rfl ?_ | refine k_ok rfl rfl ?_))
    exact w_roundX ⟨rfl, T, rfl, _, _, _, rfl⟩
end Go.Proofs.YtehnalbdfnmphaaDoor
