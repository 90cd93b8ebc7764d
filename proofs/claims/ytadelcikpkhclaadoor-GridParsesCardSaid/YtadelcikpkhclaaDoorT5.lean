/- Contracts: numbers of a text; both Formats. -/
import Derived.Test.YtadelcikpkhclaaDoorT4
namespace Go.Proofs.YtadelcikpkhclaaDoor
open Go.Ab
set_option linter.unusedVariables false
set_option linter.unusedSimpArgs false
set_option maxRecDepth 20000
attribute [local irreducible] wOps wA wSeq wBlk wRound wOpsD

/-! ### numbers -/
def numL : List (List UInt8) → Option (List Int)
  | [] => some []
  | w :: r => match Lib.atoiAll w with
    | .ok v => (numL r).map (v :: ·)
    | _ => none
theorem numL_snoc {v : Int} {w : List UInt8} (hv : Lib.atoiAll w = .ok v) : ∀ {ws : List (List UInt8)} {out : List Int}, numL ws = some out → numL (ws ++ [w]) = some (out ++ [v])
  | [], out, h => by
    simp only [numL, Option.some.injEq] at h
    subst h
    simp [numL, hv]
  | u :: r, out, h => by
    simp only [numL, List.cons_append] at h ⊢
    split at h
    · rename_i x hx
      cases hr : numL r with
      | none => rw [hr] at h; cases h
      | some o =>
        rw [hr] at h
        simp only [Option.map_some, Option.some.injEq] at h
        subst h
        rw [numL_snoc hv hr]; rfl
    · cases h
theorem numL_fail {w : List UInt8} (hv : ∀ v, Lib.atoiAll w ≠ .ok v) : ∀ {ws : List (List UInt8)}, w ∈ ws → numL ws = none
  | [], h => by simp at h
  | u :: r, h => by
    simp only [numL]
    rcases List.mem_cons.1 h with rfl | h
    · cases ha : Lib.atoiAll w with
      | ok v => exact absurd ha (hv v)
      | _ => rfl
    · rw [numL_fail hv h]
      cases Lib.atoiAll u <;> rfl
theorem numL_len : ∀ {ws : List (List UInt8)} {out : List Int}, numL ws = some out → out.length = ws.length
  | [], out, h => by simp only [numL, Option.some.injEq] at h; subst h; rfl
  | u :: r, out, h => by
    simp only [numL] at h
    split at h
    · cases hr : numL r with
      | none => rw [hr] at h; cases h
      | some o => rw [hr] at h; simp only [Option.map_some, Option.some.injEq] at h; subst h; simp [numL_len hr]
    · cases h
/-- What numbers returns. -/
def numT (s : List UInt8) : List Int := (numL (Lib.split s [32])).getD []
theorem splitK_le (sep : List UInt8) : ∀ (k : Nat) (s : List UInt8), (Lib.splitK sep 0 k s).length ≤ k + 1
  | 0, s => Nat.le_refl _
  | k + 1, s => by
    unfold Lib.splitK
    split
    · simp
    · have := splitK_le sep k (s.drop ((Lib.index s sep).toNat + sep.length))
      simp only [List.length_cons]; omega
theorem split_le (s sep : List UInt8) : (Lib.split s sep).length ≤ s.length + 2 := by
  have h1 := splitK_le sep (Lib.count s sep) s
  have h2 := Lib.count_le s sep
  unfold Lib.split; omega

def I46 (h0 : Heap) (s : SV) (ws : List (List UInt8)) (E : Env) (h : Heap) : Prop := ∃ (i : Nat) (t : SV) (out : List Int), i ≤ ws.length ∧ numL (ws.take i) = some out ∧ Own h0 h t (ints out) ∧ Ext h0 h ∧
  E = [(3, some (.sc t)), (9, some (.sc s)), (10, some (.sc (.int .i64 ws.length))), (11, some (.sc (.int .i64 i)))]
def R46 (h0 : Heap) (ws : List (List UInt8)) (ex : Ex) (E : Env) (h : Heap) : Prop := Ext h0 h ∧ match ex with
  | .rt => E = [(2, some (.sc .nilS))] ∧ numL ws = none
  | .ex i => i = 0 ∧ ∃ t out a b c d, numL ws = some out ∧ Own h0 h t (ints out) ∧ E = [(3, some (.sc t)), (9, a), (10, b), (11, c), (12, d)]
  | .nm => False
theorem round46 (h0 : Heap) (s : SV) (ws : List (List UInt8)) (hp : IsPins h0) (hs : IsSl h0 s 1 ws.length (ws.map tb)) (hw : ∀ w ∈ ws, w.length ≤ 1000000) (hl : ws.length ≤ 1000000) (E : Env) (h : Heap) (hI : I46 h0 s ws E h) :
    wA FT HKt b46L0 (E.keep [3, 9, 10, 11]) h (wRound (I46 h0 s ws) (cnt ws.length 11) (cnt ws.length 11 E h) (R46 h0 ws)) := by
  obtain ⟨i, t, out, hi, hn, ho, he, rfl⟩ := hI
  have hol := numL_len hn
  rw [List.length_take] at hol
  by_cases hlt : i < ws.length
  · obtain ⟨w, hx⟩ : ∃ w, ws[i]? = some w := ⟨_, List.getElem?_eq_getElem hlt⟩
    have hwl := hw w (List.mem_of_getElem? hx)
    have hs1 : IsSl h0 s 1 (ws.map tb).length (ws.map tb) := by rw [List.length_map]; exact hs
    obtain ⟨id, off, cap, rfl, hrd⟩ := IsSl.at (IsSl.ext hs1 he) (show (ws.map tb)[i]? = some (tb w) by rw [List.getElem?_map, hx]; rfl)
    rw [List.length_map] at *
    have en : ws.take (i + 1) = ws.take i ++ [w] := take_snoc hx
    have k1 := atoi_call (hp.ext he) w hwl
    rcases numEnds (Lib.atoiAll w) with ⟨v, hA⟩ | hA | hA
    · have ev : atoiV w = .tup [.sc (.int .i64 v), .sc .nilI] := by unfold atoiV; rw [hA]
      rw [ev] at k1
      repeat' (first
        | refine w_seq ?_
        | refine w_seqN ?_
        | refine w_seqX ?_
        | refine w_seqR ?_
        | refine w_blk ?_
        | refine w_blkN ?_
        | refine w_blkX ?_
        | refine w_blkR ?_
        | refine w_skip ?_
        | refine w_ret ?_
        | refine w_exit ?_
        | refine w_ops ?_
        | refine w_opsD ?_
        | refine d_one ?_
        | refine d_nil ?_
        | ((refine i_cond ?_); first | refine w_condT rfl ?_ | refine w_condF rfl ?_)
        | ((refine i_nil ?_); first | refine d_same ?_ | refine d_ord ?_ | refine d_ext ⟨_, rfl⟩ ?_ | refine d_ext (extA _ _ _) ?_ | refine d_ext (by assumption) ?_ | refine w_end0 ?_ | refine w_end1 rfl ?_ | refine w_end2 rfl rfl ?_ | refine w_end3 rfl rfl rfl ?_ | refine w_end4 rfl rfl rfl rfl ?_ | refine w_end5 rfl rfl rfl rfl rfl ?_ | refine w_end6 rfl rfl rfl rfl rfl rfl ?_ | refine w_end7 rfl rfl rfl rfl rfl rfl rfl ?_ | refine w_end8 rfl rfl rfl rfl rfl rfl rfl rfl ?_ | refine w_end9 rfl rfl rfl rfl rfl rfl rfl rfl rfl ?_ | refine w_end10 rfl rfl rfl rfl rfl rfl rfl rfl rfl rfl ?_ | refine w_end11 rfl rfl rfl rfl rfl rfl rfl rfl rfl rfl rfl ?_ | refine w_end12 rfl rfl rfl rfl rfl rfl rfl rfl rfl rfl rfl rfl ?_ | refine w_end13 rfl rfl rfl rfl rfl rfl rfl rfl rfl rfl rfl rfl rfl ?_ | refine w_end14 rfl rfl rfl rfl rfl rfl rfl rfl rfl rfl rfl rfl rfl rfl ?_ | refine w_end15 rfl rfl rfl rfl rfl rfl rfl rfl rfl rfl rfl rfl rfl rfl rfl ?_ | refine w_end16 rfl rfl rfl rfl rfl rfl rfl rfl rfl rfl rfl rfl rfl rfl rfl rfl ?_)
        | ((refine i_cons ?_); first
          | refine k_idxA rfl rfl (by omega) ?_
          | refine k_ld rfl hrd ?_
          | (refine k_call rfl k1 ?_; rintro v h1 ⟨rfl, rfl⟩)
          | (refine k_push he ho rfl rfl (by simp [ints, bigN]; omega) ?_; intro s1 h1 o1 e1 f1)
          | refine k_skip rfl ?_
          | refine k_skipU rfl ?_
          | refine k_want rfl ?_
          | refine k_mv rfl ?_
          | refine k_pickT rfl rfl ?_
          | refine k_pickF rfl rfl ?_
          | refine k_notT rfl ?_
          | refine k_notF rfl ?_
          | refine k_add rfl rfl (by omega) ?_
          | refine k_sub rfl rfl (by omega) ?_
          | refine k_mul rfl rfl (by omega) ?_
          | refine k_neg rfl (by omega) ?_
          | refine k_quo rfl rfl (by omega) ?_
          | refine k_rem rfl rfl (by omega) ?_
          | refine k_conv rfl (by omega) ?_
          | refine k_max rfl rfl ?_
          | refine k_min rfl rfl ?_
          | refine k_lssT rfl rfl (by omega) ?_
          | refine k_lssF rfl rfl (by omega) ?_
          | refine k_lss rfl rfl (fun hc => ?_) (fun hc => ?_)
          | refine k_leqT rfl rfl (by omega) ?_
          | refine k_leqF rfl rfl (by omega) ?_
          | refine k_leq rfl rfl (fun hc => ?_) (fun hc => ?_)
          | refine k_gtrT rfl rfl (by omega) ?_
          | refine k_gtrF rfl rfl (by omega) ?_
          | refine k_gtr rfl rfl (fun hc => ?_) (fun hc => ?_)
          | refine k_geqT rfl rfl (by omega) ?_
          | refine k_geqF rfl rfl (by omega) ?_
          | refine k_geq rfl rfl (fun hc => ?_) (fun hc => ?_)
          | refine k_eqlT rfl rfl (by omega) ?_
          | refine k_eqlF rfl rfl (by omega) ?_
          | refine k_eql rfl rfl (fun hc => ?_) (fun hc => ?_)
          | refine k_neqT rfl rfl (by omega) ?_
          | refine k_neqF rfl rfl (by omega) ?_
          | refine k_neq rfl rfl (fun hc => ?_) (fun hc => ?_)
          | refine k_len rfl rfl ?_
          | refine k_ok rfl rfl ?_))
      exact w_roundN ⟨i + 1, s1, out ++ [v], by omega, by rw [en]; exact numL_snoc hA hn, by simpa [ints] using o1, e1, rfl⟩ (by simp [cnt, Env.get]; omega)
    · have ev : atoiV w = .tup [.sc (.int .i64 (Lib.atoiSat w)), .sc .ifc] := by unfold atoiV; rw [hA]
      rw [ev] at k1
      repeat' (first
        | refine w_seq ?_
        | refine w_seqN ?_
        | refine w_seqX ?_
        | refine w_seqR ?_
        | refine w_blk ?_
        | refine w_blkN ?_
        | refine w_blkX ?_
        | refine w_blkR ?_
        | refine w_skip ?_
        | refine w_ret ?_
        | refine w_exit ?_
        | refine w_ops ?_
        | refine w_opsD ?_
        | refine d_one ?_
        | refine d_nil ?_
        | ((refine i_cond ?_); first | refine w_condT rfl ?_ | refine w_condF rfl ?_)
        | ((refine i_nil ?_); first | refine d_same ?_ | refine d_ord ?_ | refine d_ext ⟨_, rfl⟩ ?_ | refine d_ext (extA _ _ _) ?_ | refine d_ext (by assumption) ?_ | refine w_end0 ?_ | refine w_end1 rfl ?_ | refine w_end2 rfl rfl ?_ | refine w_end3 rfl rfl rfl ?_ | refine w_end4 rfl rfl rfl rfl ?_ | refine w_end5 rfl rfl rfl rfl rfl ?_ | refine w_end6 rfl rfl rfl rfl rfl rfl ?_ | refine w_end7 rfl rfl rfl rfl rfl rfl rfl ?_ | refine w_end8 rfl rfl rfl rfl rfl rfl rfl rfl ?_ | refine w_end9 rfl rfl rfl rfl rfl rfl rfl rfl rfl ?_ | refine w_end10 rfl rfl rfl rfl rfl rfl rfl rfl rfl rfl ?_ | refine w_end11 rfl rfl rfl rfl rfl rfl rfl rfl rfl rfl rfl ?_ | refine w_end12 rfl rfl rfl rfl rfl rfl rfl rfl rfl rfl rfl rfl ?_ | refine w_end13 rfl rfl rfl rfl rfl rfl rfl rfl rfl rfl rfl rfl rfl ?_ | refine w_end14 rfl rfl rfl rfl rfl rfl rfl rfl rfl rfl rfl rfl rfl rfl ?_ | refine w_end15 rfl rfl rfl rfl rfl rfl rfl rfl rfl rfl rfl rfl rfl rfl rfl ?_ | refine w_end16 rfl rfl rfl rfl rfl rfl rfl rfl rfl rfl rfl rfl rfl rfl rfl rfl ?_)
        | ((refine i_cons ?_); first
          | refine k_idxA rfl rfl (by omega) ?_
          | refine k_ld rfl hrd ?_
          | (refine k_call rfl k1 ?_; rintro v h1 ⟨rfl, rfl⟩)
          | refine k_skip rfl ?_
          | refine k_skipU rfl ?_
          | refine k_want rfl ?_
          | refine k_mv rfl ?_
          | refine k_pickT rfl rfl ?_
          | refine k_pickF rfl rfl ?_
          | refine k_notT rfl ?_
          | refine k_notF rfl ?_
          | refine k_add rfl rfl (by omega) ?_
          | refine k_sub rfl rfl (by omega) ?_
          | refine k_mul rfl rfl (by omega) ?_
          | refine k_neg rfl (by omega) ?_
          | refine k_quo rfl rfl (by omega) ?_
          | refine k_rem rfl rfl (by omega) ?_
          | refine k_conv rfl (by omega) ?_
          | refine k_max rfl rfl ?_
          | refine k_min rfl rfl ?_
          | refine k_lssT rfl rfl (by omega) ?_
          | refine k_lssF rfl rfl (by omega) ?_
          | refine k_lss rfl rfl (fun hc => ?_) (fun hc => ?_)
          | refine k_leqT rfl rfl (by omega) ?_
          | refine k_leqF rfl rfl (by omega) ?_
          | refine k_leq rfl rfl (fun hc => ?_) (fun hc => ?_)
          | refine k_gtrT rfl rfl (by omega) ?_
          | refine k_gtrF rfl rfl (by omega) ?_
          | refine k_gtr rfl rfl (fun hc => ?_) (fun hc => ?_)
          | refine k_geqT rfl rfl (by omega) ?_
          | refine k_geqF rfl rfl (by omega) ?_
          | refine k_geq rfl rfl (fun hc => ?_) (fun hc => ?_)
          | refine k_eqlT rfl rfl (by omega) ?_
          | refine k_eqlF rfl rfl (by omega) ?_
          | refine k_eql rfl rfl (fun hc => ?_) (fun hc => ?_)
          | refine k_neqT rfl rfl (by omega) ?_
          | refine k_neqF rfl rfl (by omega) ?_
          | refine k_neq rfl rfl (fun hc => ?_) (fun hc => ?_)
          | refine k_len rfl rfl ?_
          | refine k_ok rfl rfl ?_))
      exact w_roundR ⟨he, rfl, numL_fail (fun v hv => by rw [hA] at hv; exact absurd hv (by simp [Lib.atoiAll])) (List.mem_of_getElem? hx)⟩
    · have ev : atoiV w = .tup [.sc (.int .i64 0), .sc .ifc] := by unfold atoiV; rw [hA]; rfl
      rw [ev] at k1
      repeat' (first
        | refine w_seq ?_
        | refine w_seqN ?_
        | refine w_seqX ?_
        | refine w_seqR ?_
        | refine w_blk ?_
        | refine w_blkN ?_
        | refine w_blkX ?_
        | refine w_blkR ?_
        | refine w_skip ?_
        | refine w_ret ?_
        | refine w_exit ?_
        | refine w_ops ?_
        | refine w_opsD ?_
        | refine d_one ?_
        | refine d_nil ?_
        | ((refine i_cond ?_); first | refine w_condT rfl ?_ | refine w_condF rfl ?_)
        | ((refine i_nil ?_); first | refine d_same ?_ | refine d_ord ?_ | refine d_ext ⟨_, rfl⟩ ?_ | refine d_ext (extA _ _ _) ?_ | refine d_ext (by assumption) ?_ | refine w_end0 ?_ | refine w_end1 rfl ?_ | refine w_end2 rfl rfl ?_ | refine w_end3 rfl rfl rfl ?_ | refine w_end4 rfl rfl rfl rfl ?_ | refine w_end5 rfl rfl rfl rfl rfl ?_ | refine w_end6 rfl rfl rfl rfl rfl rfl ?_ | refine w_end7 rfl rfl rfl rfl rfl rfl rfl ?_ | refine w_end8 rfl rfl rfl rfl rfl rfl rfl rfl ?_ | refine w_end9 rfl rfl rfl rfl rfl rfl rfl rfl rfl ?_ | refine w_end10 rfl rfl rfl rfl rfl rfl rfl rfl rfl rfl ?_ | refine w_end11 rfl rfl rfl rfl rfl rfl rfl rfl rfl rfl rfl ?_ | refine w_end12 rfl rfl rfl rfl rfl rfl rfl rfl rfl rfl rfl rfl ?_ | refine w_end13 rfl rfl rfl rfl rfl rfl rfl rfl rfl rfl rfl rfl rfl ?_ | refine w_end14 rfl rfl rfl rfl rfl rfl rfl rfl rfl rfl rfl rfl rfl rfl ?_ | refine w_end15 rfl rfl rfl rfl rfl rfl rfl rfl rfl rfl rfl rfl rfl rfl rfl ?_ | refine w_end16 rfl rfl rfl rfl rfl rfl rfl rfl rfl rfl rfl rfl rfl rfl rfl rfl ?_)
        | ((refine i_cons ?_); first
          | refine k_idxA rfl rfl (by omega) ?_
          | refine k_ld rfl hrd ?_
          | (refine k_call rfl k1 ?_; rintro v h1 ⟨rfl, rfl⟩)
          | refine k_skip rfl ?_
          | refine k_skipU rfl ?_
          | refine k_want rfl ?_
          | refine k_mv rfl ?_
          | refine k_pickT rfl rfl ?_
          | refine k_pickF rfl rfl ?_
          | refine k_notT rfl ?_
          | refine k_notF rfl ?_
          | refine k_add rfl rfl (by omega) ?_
          | refine k_sub rfl rfl (by omega) ?_
          | refine k_mul rfl rfl (by omega) ?_
          | refine k_neg rfl (by omega) ?_
          | refine k_quo rfl rfl (by omega) ?_
          | refine k_rem rfl rfl (by omega) ?_
          | refine k_conv rfl (by omega) ?_
          | refine k_max rfl rfl ?_
          | refine k_min rfl rfl ?_
          | refine k_lssT rfl rfl (by omega) ?_
          | refine k_lssF rfl rfl (by omega) ?_
          | refine k_lss rfl rfl (fun hc => ?_) (fun hc => ?_)
          | refine k_leqT rfl rfl (by omega) ?_
          | refine k_leqF rfl rfl (by omega) ?_
          | refine k_leq rfl rfl (fun hc => ?_) (fun hc => ?_)
          | refine k_gtrT rfl rfl (by omega) ?_
          | refine k_gtrF rfl rfl (by omega) ?_
          | refine k_gtr rfl rfl (fun hc => ?_) (fun hc => ?_)
          | refine k_geqT rfl rfl (by omega) ?_
          | refine k_geqF rfl rfl (by omega) ?_
          | refine k_geq rfl rfl (fun hc => ?_) (fun hc => ?_)
          | refine k_eqlT rfl rfl (by omega) ?_
          | refine k_eqlF rfl rfl (by omega) ?_
          | refine k_eql rfl rfl (fun hc => ?_) (fun hc => ?_)
          | refine k_neqT rfl rfl (by omega) ?_
          | refine k_neqF rfl rfl (by omega) ?_
          | refine k_neq rfl rfl (fun hc => ?_) (fun hc => ?_)
          | refine k_len rfl rfl ?_
          | refine k_ok rfl rfl ?_))
      exact w_roundR ⟨he, rfl, numL_fail (fun v hv => by rw [hA] at hv; exact absurd hv (by simp [Lib.atoiAll])) (List.mem_of_getElem? hx)⟩
  · rw [List.take_of_length_le (by omega)] at hn
    repeat' (first
      | refine w_seq ?_
      | refine w_seqN ?_
      | refine w_seqX ?_
      | refine w_seqR ?_
      | refine w_blk ?_
      | refine w_blkN ?_
      | refine w_blkX ?_
      | refine w_blkR ?_
      | refine w_skip ?_
      | refine w_ret ?_
      | refine w_exit ?_
      | refine w_ops ?_
      | refine w_opsD ?_
      | refine d_one ?_
      | refine d_nil ?_
      | ((refine i_cond ?_); first | refine w_condT rfl ?_ | refine w_condF rfl ?_)
      | ((refine i_nil ?_); first | refine d_same ?_ | refine d_ord ?_ | refine d_ext ⟨_, rfl⟩ ?_ | refine d_ext (extA _ _ _) ?_ | refine d_ext (by assumption) ?_ | refine w_end0 ?_ | refine w_end1 rfl ?_ | refine w_end2 rfl rfl ?_ | refine w_end3 rfl rfl rfl ?_ | refine w_end4 rfl rfl rfl rfl ?_ | refine w_end5 rfl rfl rfl rfl rfl ?_ | refine w_end6 rfl rfl rfl rfl rfl rfl ?_ | refine w_end7 rfl rfl rfl rfl rfl rfl rfl ?_ | refine w_end8 rfl rfl rfl rfl rfl rfl rfl rfl ?_ | refine w_end9 rfl rfl rfl rfl rfl rfl rfl rfl rfl ?_ | refine w_end10 rfl rfl rfl rfl rfl rfl rfl rfl rfl rfl ?_ | refine w_end11 rfl rfl rfl rfl rfl rfl rfl rfl rfl rfl rfl ?_ | refine w_end12 rfl rfl rfl rfl rfl rfl rfl rfl rfl rfl rfl rfl ?_ | refine w_end13 rfl rfl rfl rfl rfl rfl rfl rfl rfl rfl rfl rfl rfl ?_ | refine w_end14 rfl rfl rfl rfl rfl rfl rfl rfl rfl rfl rfl rfl rfl rfl ?_ | refine w_end15 rfl rfl rfl rfl rfl rfl rfl rfl rfl rfl rfl rfl rfl rfl rfl ?_ | refine w_end16 rfl rfl rfl rfl rfl rfl rfl rfl rfl rfl rfl rfl rfl rfl rfl rfl ?_)
      | ((refine i_cons ?_); first
        | refine k_skip rfl ?_
        | refine k_skipU rfl ?_
        | refine k_want rfl ?_
        | refine k_mv rfl ?_
        | refine k_pickT rfl rfl ?_
        | refine k_pickF rfl rfl ?_
        | refine k_notT rfl ?_
        | refine k_notF rfl ?_
        | refine k_add rfl rfl (by omega) ?_
        | refine k_sub rfl rfl (by omega) ?_
        | refine k_mul rfl rfl (by omega) ?_
        | refine k_neg rfl (by omega) ?_
        | refine k_quo rfl rfl (by omega) ?_
        | refine k_rem rfl rfl (by omega) ?_
        | refine k_conv rfl (by omega) ?_
        | refine k_max rfl rfl ?_
        | refine k_min rfl rfl ?_
        | refine k_lssT rfl rfl (by omega) ?_
        | refine k_lssF rfl rfl (by omega) ?_
        | refine k_lss rfl rfl (fun hc => ?_) (fun hc => ?_)
        | refine k_leqT rfl rfl (by omega) ?_
        | refine k_leqF rfl rfl (by omega) ?_
        | refine k_leq rfl rfl (fun hc => ?_) (fun hc => ?_)
        | refine k_gtrT rfl rfl (by omega) ?_
        | refine k_gtrF rfl rfl (by omega) ?_
        | refine k_gtr rfl rfl (fun hc => ?_) (fun hc => ?_)
        | refine k_geqT rfl rfl (by omega) ?_
        | refine k_geqF rfl rfl (by omega) ?_
        | refine k_geq rfl rfl (fun hc => ?_) (fun hc => ?_)
        | refine k_eqlT rfl rfl (by omega) ?_
        | refine k_eqlF rfl rfl (by omega) ?_
        | refine k_eql rfl rfl (fun hc => ?_) (fun hc => ?_)
        | refine k_neqT rfl rfl (by omega) ?_
        | refine k_neqF rfl rfl (by omega) ?_
        | refine k_neq rfl rfl (fun hc => ?_) (fun hc => ?_)
        | refine k_len rfl rfl ?_
        | refine k_ok rfl rfl ?_))
    exact w_roundX ⟨he, rfl, t, out, _, _, _, _, hn, ho, rfl⟩
theorem split_short (s : List UInt8) : ∀ w ∈ Lib.split s [32], w.length ≤ s.length := by
  have : ∀ (k : Nat) (s : List UInt8), ∀ w ∈ Lib.splitK [32] 0 k s, w.length ≤ s.length := by
    intro k
    induction k with
    | zero => intro s w hw; simp [Lib.splitK] at hw; subst hw; exact Nat.le_refl _
    | succ k ih =>
      intro s w hw
      unfold Lib.splitK at hw
      split at hw
      · simp at hw; subst hw; exact Nat.le_refl _
      · rcases List.mem_cons.1 hw with rfl | hw
        · simp; omega
        · have := ih _ w hw
          rw [List.length_drop] at this; omega
  exact this _ s
theorem call46 (h0 : Heap) (s : List UInt8) (hp : IsPins h0) (hl : s.length ≤ 100000) :
    ∃ v h', Cal FT HKt 46 [.sc (tb s)] h0 v h' ∧ ∃ t, v = .sc t ∧ IsInts h' t (numT s) ∧ Ext h0 h' := by
  refine Cal.of (F := a46) rfl rfl rfl ?_
  have hsl := split_le s [32]
  have hss := split_short s
  repeat' (first
    | refine w_seq ?_
    | refine w_seqN ?_
    | refine w_seqX ?_
    | refine w_seqR ?_
    | refine w_blk ?_
    | refine w_blkN ?_
    | refine w_blkX ?_
    | refine w_blkR ?_
    | refine w_skip ?_
    | refine w_ret ?_
    | refine w_exit ?_
    | refine w_ops ?_
    | refine w_opsD ?_
    | refine d_one ?_
    | refine d_nil ?_
    | ((refine i_cond ?_); first | refine w_condT rfl ?_ | refine w_condF rfl ?_)
    | ((refine i_nil ?_); first | refine d_same ?_ | refine d_ord ?_ | refine d_ext ⟨_, rfl⟩ ?_ | refine d_ext (extA _ _ _) ?_ | refine d_ext (by assumption) ?_ | refine w_end0 ?_ | refine w_end1 rfl ?_ | refine w_end2 rfl rfl ?_ | refine w_end3 rfl rfl rfl ?_ | refine w_end4 rfl rfl rfl rfl ?_ | refine w_end5 rfl rfl rfl rfl rfl ?_ | refine w_end6 rfl rfl rfl rfl rfl rfl ?_ | refine w_end7 rfl rfl rfl rfl rfl rfl rfl ?_ | refine w_end8 rfl rfl rfl rfl rfl rfl rfl rfl ?_ | refine w_end9 rfl rfl rfl rfl rfl rfl rfl rfl rfl ?_ | refine w_end10 rfl rfl rfl rfl rfl rfl rfl rfl rfl rfl ?_ | refine w_end11 rfl rfl rfl rfl rfl rfl rfl rfl rfl rfl rfl ?_ | refine w_end12 rfl rfl rfl rfl rfl rfl rfl rfl rfl rfl rfl rfl ?_ | refine w_end13 rfl rfl rfl rfl rfl rfl rfl rfl rfl rfl rfl rfl rfl ?_ | refine w_end14 rfl rfl rfl rfl rfl rfl rfl rfl rfl rfl rfl rfl rfl rfl ?_ | refine w_end15 rfl rfl rfl rfl rfl rfl rfl rfl rfl rfl rfl rfl rfl rfl rfl ?_ | refine w_end16 rfl rfl rfl rfl rfl rfl rfl rfl rfl rfl rfl rfl rfl rfl rfl rfl ?_)
    | ((refine i_cons ?_); first
      | (refine k_call rfl (split_call hp s [32] (by omega) (by simp)) ?_; rintro v h1 ⟨q, rfl, e1, s1⟩; have l1 := IsSl.len s1)
      | refine k_len rfl l1 ?_
      | refine k_skip rfl ?_
      | refine k_skipU rfl ?_
      | refine k_want rfl ?_
      | refine k_mv rfl ?_
      | refine k_pickT rfl rfl ?_
      | refine k_pickF rfl rfl ?_
      | refine k_notT rfl ?_
      | refine k_notF rfl ?_
      | refine k_add rfl rfl (by omega) ?_
      | refine k_sub rfl rfl (by omega) ?_
      | refine k_mul rfl rfl (by omega) ?_
      | refine k_neg rfl (by omega) ?_
      | refine k_quo rfl rfl (by omega) ?_
      | refine k_rem rfl rfl (by omega) ?_
      | refine k_conv rfl (by omega) ?_
      | refine k_max rfl rfl ?_
      | refine k_min rfl rfl ?_
      | refine k_lssT rfl rfl (by omega) ?_
      | refine k_lssF rfl rfl (by omega) ?_
      | refine k_lss rfl rfl (fun hc => ?_) (fun hc => ?_)
      | refine k_leqT rfl rfl (by omega) ?_
      | refine k_leqF rfl rfl (by omega) ?_
      | refine k_leq rfl rfl (fun hc => ?_) (fun hc => ?_)
      | refine k_gtrT rfl rfl (by omega) ?_
      | refine k_gtrF rfl rfl (by omega) ?_
      | refine k_gtr rfl rfl (fun hc => ?_) (fun hc => ?_)
      | refine k_geqT rfl rfl (by omega) ?_
      | refine k_geqF rfl rfl (by omega) ?_
      | refine k_geq rfl rfl (fun hc => ?_) (fun hc => ?_)
      | refine k_eqlT rfl rfl (by omega) ?_
      | refine k_eqlF rfl rfl (by omega) ?_
      | refine k_eql rfl rfl (fun hc => ?_) (fun hc => ?_)
      | refine k_neqT rfl rfl (by omega) ?_
      | refine k_neqF rfl rfl (by omega) ?_
      | refine k_neq rfl rfl (fun hc => ?_) (fun hc => ?_)
      | refine k_len rfl rfl ?_
      | refine k_ok rfl rfl ?_))
  refine w_loop (I46 h1 q (Lib.split s [32])) (cnt (Lib.split s [32]).length 11) (R46 h1 (Lib.split s [32])) ⟨0, .nilS, [], Nat.zero_le _, rfl, .inl ⟨rfl, rfl⟩, Ext.refl _, rfl⟩ (round46 h1 q _ (hp.ext e1) s1 (fun w hw => by have := hss w hw; omega) (by omega)) ?_
  rintro ex E' h' ⟨he, hR⟩
  cases ex with
  | nm => exact hR.elim
  | ex i =>
    obtain ⟨rfl, t, out, a, b, c, d, hn, ho, rfl⟩ := hR
    repeat' (first
      | refine w_seq ?_
      | refine w_seqN ?_
      | refine w_seqX ?_
      | refine w_seqR ?_
      | refine w_blk ?_
      | refine w_blkN ?_
      | refine w_blkX ?_
      | refine w_blkR ?_
      | refine w_skip ?_
      | refine w_ret ?_
      | refine w_exit ?_
      | refine w_ops ?_
      | refine w_opsD ?_
      | refine d_one ?_
      | refine d_nil ?_
      | ((refine i_cond ?_); first | refine w_condT rfl ?_ | refine w_condF rfl ?_)
      | ((refine i_nil ?_); first | refine d_same ?_ | refine d_ord ?_ | refine d_ext ⟨_, rfl⟩ ?_ | refine d_ext (extA _ _ _) ?_ | refine d_ext (by assumption) ?_ | refine w_end0 ?_ | refine w_end1 rfl ?_ | refine w_end2 rfl rfl ?_ | refine w_end3 rfl rfl rfl ?_ | refine w_end4 rfl rfl rfl rfl ?_ | refine w_end5 rfl rfl rfl rfl rfl ?_ | refine w_end6 rfl rfl rfl rfl rfl rfl ?_ | refine w_end7 rfl rfl rfl rfl rfl rfl rfl ?_ | refine w_end8 rfl rfl rfl rfl rfl rfl rfl rfl ?_ | refine w_end9 rfl rfl rfl rfl rfl rfl rfl rfl rfl ?_ | refine w_end10 rfl rfl rfl rfl rfl rfl rfl rfl rfl rfl ?_ | refine w_end11 rfl rfl rfl rfl rfl rfl rfl rfl rfl rfl rfl ?_ | refine w_end12 rfl rfl rfl rfl rfl rfl rfl rfl rfl rfl rfl rfl ?_ | refine w_end13 rfl rfl rfl rfl rfl rfl rfl rfl rfl rfl rfl rfl rfl ?_ | refine w_end14 rfl rfl rfl rfl rfl rfl rfl rfl rfl rfl rfl rfl rfl rfl ?_ | refine w_end15 rfl rfl rfl rfl rfl rfl rfl rfl rfl rfl rfl rfl rfl rfl rfl ?_ | refine w_end16 rfl rfl rfl rfl rfl rfl rfl rfl rfl rfl rfl rfl rfl rfl rfl rfl ?_)
      | ((refine i_cons ?_); first
        | refine k_skip rfl ?_
        | refine k_skipU rfl ?_
        | refine k_want rfl ?_
        | refine k_mv rfl ?_
        | refine k_pickT rfl rfl ?_
        | refine k_pickF rfl rfl ?_
        | refine k_notT rfl ?_
        | refine k_notF rfl ?_
        | refine k_add rfl rfl (by omega) ?_
        | refine k_sub rfl rfl (by omega) ?_
        | refine k_mul rfl rfl (by omega) ?_
        | refine k_neg rfl (by omega) ?_
        | refine k_quo rfl rfl (by omega) ?_
        | refine k_rem rfl rfl (by omega) ?_
        | refine k_conv rfl (by omega) ?_
        | refine k_max rfl rfl ?_
        | refine k_min rfl rfl ?_
        | refine k_lssT rfl rfl (by omega) ?_
        | refine k_lssF rfl rfl (by omega) ?_
        | refine k_lss rfl rfl (fun hc => ?_) (fun hc => ?_)
        | refine k_leqT rfl rfl (by omega) ?_
        | refine k_leqF rfl rfl (by omega) ?_
        | refine k_leq rfl rfl (fun hc => ?_) (fun hc => ?_)
        | refine k_gtrT rfl rfl (by omega) ?_
        | refine k_gtrF rfl rfl (by omega) ?_
        | refine k_gtr rfl rfl (fun hc => ?_) (fun hc => ?_)
        | refine k_geqT rfl rfl (by omega) ?_
        | refine k_geqF rfl rfl (by omega) ?_
        | refine k_geq rfl rfl (fun hc => ?_) (fun hc => ?_)
        | refine k_eqlT rfl rfl (by omega) ?_
        | refine k_eqlF rfl rfl (by omega) ?_
        | refine k_eql rfl rfl (fun hc => ?_) (fun hc => ?_)
        | refine k_neqT rfl rfl (by omega) ?_
        | refine k_neqF rfl rfl (by omega) ?_
        | refine k_neq rfl rfl (fun hc => ?_) (fun hc => ?_)
        | refine k_len rfl rfl ?_
        | refine k_ok rfl rfl ?_))
    exact ⟨.inr rfl, t, rfl, by unfold numT; rw [hn]; exact Ab.Own.ids ho, e1.trans he⟩
  | rt =>
    obtain ⟨rfl, hn⟩ := hR
    repeat' (first
      | refine w_seq ?_
      | refine w_seqN ?_
      | refine w_seqX ?_
      | refine w_seqR ?_
      | refine w_blk ?_
      | refine w_blkN ?_
      | refine w_blkX ?_
      | refine w_blkR ?_
      | refine w_skip ?_
      | refine w_ret ?_
      | refine w_exit ?_
      | refine w_ops ?_
      | refine w_opsD ?_
      | refine d_one ?_
      | refine d_nil ?_
      | ((refine i_cond ?_); first | refine w_condT rfl ?_ | refine w_condF rfl ?_)
      | ((refine i_nil ?_); first | refine d_same ?_ | refine d_ord ?_ | refine d_ext ⟨_, rfl⟩ ?_ | refine d_ext (extA _ _ _) ?_ | refine d_ext (by assumption) ?_ | refine w_end0 ?_ | refine w_end1 rfl ?_ | refine w_end2 rfl rfl ?_ | refine w_end3 rfl rfl rfl ?_ | refine w_end4 rfl rfl rfl rfl ?_ | refine w_end5 rfl rfl rfl rfl rfl ?_ | refine w_end6 rfl rfl rfl rfl rfl rfl ?_ | refine w_end7 rfl rfl rfl rfl rfl rfl rfl ?_ | refine w_end8 rfl rfl rfl rfl rfl rfl rfl rfl ?_ | refine w_end9 rfl rfl rfl rfl rfl rfl rfl rfl rfl ?_ | refine w_end10 rfl rfl rfl rfl rfl rfl rfl rfl rfl rfl ?_ | refine w_end11 rfl rfl rfl rfl rfl rfl rfl rfl rfl rfl rfl ?_ | refine w_end12 rfl rfl rfl rfl rfl rfl rfl rfl rfl rfl rfl rfl ?_ | refine w_end13 rfl rfl rfl rfl rfl rfl rfl rfl rfl rfl rfl rfl rfl ?_ | refine w_end14 rfl rfl rfl rfl rfl rfl rfl rfl rfl rfl rfl rfl rfl rfl ?_ | refine w_end15 rfl rfl rfl rfl rfl rfl rfl rfl rfl rfl rfl rfl rfl rfl rfl ?_ | refine w_end16 rfl rfl rfl rfl rfl rfl rfl rfl rfl rfl rfl rfl rfl rfl rfl rfl ?_)
      | ((refine i_cons ?_); first
        | refine k_skip rfl ?_
        | refine k_skipU rfl ?_
        | refine k_want rfl ?_
        | refine k_mv rfl ?_
        | refine k_pickT rfl rfl ?_
        | refine k_pickF rfl rfl ?_
        | refine k_notT rfl ?_
        | refine k_notF rfl ?_
        | refine k_add rfl rfl (by omega) ?_
        | refine k_sub rfl rfl (by omega) ?_
        | refine k_mul rfl rfl (by omega) ?_
        | refine k_neg rfl (by omega) ?_
        | refine k_quo rfl rfl (by omega) ?_
        | refine k_rem rfl rfl (by omega) ?_
        | refine k_conv rfl (by omega) ?_
        | refine k_max rfl rfl ?_
        | refine k_min rfl rfl ?_
        | refine k_lssT rfl rfl (by omega) ?_
        | refine k_lssF rfl rfl (by omega) ?_
        | refine k_lss rfl rfl (fun hc => ?_) (fun hc => ?_)
        | refine k_leqT rfl rfl (by omega) ?_
        | refine k_leqF rfl rfl (by omega) ?_
        | refine k_leq rfl rfl (fun hc => ?_) (fun hc => ?_)
        | refine k_gtrT rfl rfl (by omega) ?_
        | refine k_gtrF rfl rfl (by omega) ?_
        | refine k_gtr rfl rfl (fun hc => ?_) (fun hc => ?_)
        | refine k_geqT rfl rfl (by omega) ?_
        | refine k_geqF rfl rfl (by omega) ?_
        | refine k_geq rfl rfl (fun hc => ?_) (fun hc => ?_)
        | refine k_eqlT rfl rfl (by omega) ?_
        | refine k_eqlF rfl rfl (by omega) ?_
        | refine k_eql rfl rfl (fun hc => ?_) (fun hc => ?_)
        | refine k_neqT rfl rfl (by omega) ?_
        | refine k_neqF rfl rfl (by omega) ?_
        | refine k_neq rfl rfl (fun hc => ?_) (fun hc => ?_)
        | refine k_len rfl rfl ?_
        | refine k_ok rfl rfl ?_))
    exact ⟨.inr rfl, .nilS, rfl, by unfold numT; rw [hn]; exact .inl ⟨rfl, rfl, rfl⟩, e1.trans he⟩

/-! ### Format -/
def mid : List UInt8 := [32, 47, 32]
def fmtG (g : Gr) : List UInt8 := listT g.1 ++ [32, 47, 32] ++ listT g.2
theorem VG.two {g : Gr} (h : VG g.1 g.2) : Two g.1 ∧ Two g.2 ∧ g.1.length ≤ 40 ∧ g.2.length ≤ 40 := by
  obtain ⟨h1, h2, h3, h4, h5, h6⟩ := h
  refine ⟨fun x hx => ?_, fun x hx => ?_, h2, by omega⟩
  · have := h5.1 x hx; unfold In01 at this; omega
  · have := h6.1 x hx; unfold In01 at this; omega
theorem fmtG_len {g : Gr} (h : VG g.1 g.2) : (fmtG g).length ≤ 2000 := by
  obtain ⟨a, b, c, d⟩ := VG.two h
  have h1 := listT_len g.1 a.i64
  have h2 := listT_len g.2 b.i64
  simp only [fmtG, List.length_append, List.length_cons, List.length_nil]; omega
theorem call30 (h0 : Heap) (X O : SV) (g : Gr) (hp : IsPins h0) (hg : IsG h0 X O g) (hv : VG g.1 g.2) :
    ∃ v h', Cal FT HKt 30 [.agg [X, O]] h0 v h' ∧ Ext h0 h' ∧ v = .tup [.sc (tb (fmtG g)), .sc (.int .i64 0)] := by
  refine Cal.of (F := a30) rfl rfl rfl ?_
  obtain ⟨a, b, c, d⟩ := VG.two hv
  have h1 := listT_len g.1 a.i64
  have h2 := listT_len g.2 b.i64
  have k1 := fun h hg => valid13 (HK := HKt) rfl rfl h X O g hg
  rw [decide_eq_true hv] at k1
  repeat' (first
    | refine w_seq ?_
    | refine w_seqN ?_
    | refine w_seqX ?_
    | refine w_seqR ?_
    | refine w_blk ?_
    | refine w_blkN ?_
    | refine w_blkX ?_
    | refine w_blkR ?_
    | refine w_skip ?_
    | refine w_ret ?_
    | refine w_exit ?_
    | refine w_ops ?_
    | refine w_opsD ?_
    | refine d_one ?_
    | refine d_nil ?_
    | ((refine i_cond ?_); first | refine w_condT rfl ?_ | refine w_condF rfl ?_)
    | ((refine i_nil ?_); first | refine d_same ?_ | refine d_ord ?_ | refine d_ext ⟨_, rfl⟩ ?_ | refine d_ext (extA _ _ _) ?_ | refine d_ext (by assumption) ?_ | refine w_end0 ?_ | refine w_end1 rfl ?_ | refine w_end2 rfl rfl ?_ | refine w_end3 rfl rfl rfl ?_ | refine w_end4 rfl rfl rfl rfl ?_ | refine w_end5 rfl rfl rfl rfl rfl ?_ | refine w_end6 rfl rfl rfl rfl rfl rfl ?_ | refine w_end7 rfl rfl rfl rfl rfl rfl rfl ?_ | refine w_end8 rfl rfl rfl rfl rfl rfl rfl rfl ?_ | refine w_end9 rfl rfl rfl rfl rfl rfl rfl rfl rfl ?_ | refine w_end10 rfl rfl rfl rfl rfl rfl rfl rfl rfl rfl ?_ | refine w_end11 rfl rfl rfl rfl rfl rfl rfl rfl rfl rfl rfl ?_ | refine w_end12 rfl rfl rfl rfl rfl rfl rfl rfl rfl rfl rfl rfl ?_ | refine w_end13 rfl rfl rfl rfl rfl rfl rfl rfl rfl rfl rfl rfl rfl ?_ | refine w_end14 rfl rfl rfl rfl rfl rfl rfl rfl rfl rfl rfl rfl rfl rfl ?_ | refine w_end15 rfl rfl rfl rfl rfl rfl rfl rfl rfl rfl rfl rfl rfl rfl rfl ?_ | refine w_end16 rfl rfl rfl rfl rfl rfl rfl rfl rfl rfl rfl rfl rfl rfl rfl rfl ?_)
    | ((refine i_cons ?_); first
      | (refine k_boxC rfl ?_; intro h1 e1 c1)
      | refine k_ldC rfl c1 ?_
      | (refine k_call rfl (k1 _ (hg.ext e1)) ?_; rintro v h2 ⟨e2, rfl⟩; have c2 := c1.ext e2; have e3 := e1.trans e2)
      | refine k_fldA rfl ?_
      | refine k_ldC0 rfl c2 ?_
      | refine k_ldC1 rfl c4 ?_
      | (refine k_call rfl (call44 _ X g.1 (hp.ext e3) (hg.ext e3).x a.i64 (by omega)) ?_; rintro v h4 ⟨rfl, e4⟩; have c4 := c2.ext e4; have e5 := e3.trans e4)
      | (refine k_call rfl (call44 _ O g.2 (hp.ext e5) (hg.ext e5).o b.i64 (by omega)) ?_; rintro v h6 ⟨rfl, e6⟩)
      | refine k_cat rfl rfl (by simp only [List.length_append, List.length_cons, List.length_nil]; omega) ?_
      | refine k_skip rfl ?_
      | refine k_skipU rfl ?_
      | refine k_want rfl ?_
      | refine k_mv rfl ?_
      | refine k_pickT rfl rfl ?_
      | refine k_pickF rfl rfl ?_
      | refine k_notT rfl ?_
      | refine k_notF rfl ?_
      | refine k_add rfl rfl (by omega) ?_
      | refine k_sub rfl rfl (by omega) ?_
      | refine k_mul rfl rfl (by omega) ?_
      | refine k_neg rfl (by omega) ?_
      | refine k_quo rfl rfl (by omega) ?_
      | refine k_rem rfl rfl (by omega) ?_
      | refine k_conv rfl (by omega) ?_
      | refine k_max rfl rfl ?_
      | refine k_min rfl rfl ?_
      | refine k_lssT rfl rfl (by omega) ?_
      | refine k_lssF rfl rfl (by omega) ?_
      | refine k_lss rfl rfl (fun hc => ?_) (fun hc => ?_)
      | refine k_leqT rfl rfl (by omega) ?_
      | refine k_leqF rfl rfl (by omega) ?_
      | refine k_leq rfl rfl (fun hc => ?_) (fun hc => ?_)
      | refine k_gtrT rfl rfl (by omega) ?_
      | refine k_gtrF rfl rfl (by omega) ?_
      | refine k_gtr rfl rfl (fun hc => ?_) (fun hc => ?_)
      | refine k_geqT rfl rfl (by omega) ?_
      | refine k_geqF rfl rfl (by omega) ?_
      | refine k_geq rfl rfl (fun hc => ?_) (fun hc => ?_)
      | refine k_eqlT rfl rfl (by omega) ?_
      | refine k_eqlF rfl rfl (by omega) ?_
      | refine k_eql rfl rfl (fun hc => ?_) (fun hc => ?_)
      | refine k_neqT rfl rfl (by omega) ?_
      | refine k_neqF rfl rfl (by omega) ?_
      | refine k_neq rfl rfl (fun hc => ?_) (fun hc => ?_)
      | refine k_len rfl rfl ?_
      | refine k_ok rfl rfl ?_))
  exact ⟨.inr rfl, e5.trans e6, rfl⟩
theorem call30e (h0 : Heap) (X O : SV) (g : Gr) (hg : IsG h0 X O g) (hv : ¬ VG g.1 g.2) :
    ∃ v h', Cal FT HKt 30 [.agg [X, O]] h0 v h' ∧ Ext h0 h' ∧ v = .tup [.sc (tb []), .sc (.int .i64 1)] := by
  refine Cal.of (F := a30) rfl rfl rfl ?_
  have k1 := fun h hg => valid13 (HK := HKt) rfl rfl h X O g hg
  rw [decide_eq_false hv] at k1
  repeat' (first
    | refine w_seq ?_
    | refine w_seqN ?_
    | refine w_seqX ?_
    | refine w_seqR ?_
    | refine w_blk ?_
    | refine w_blkN ?_
    | refine w_blkX ?_
    | refine w_blkR ?_
    | refine w_skip ?_
    | refine w_ret ?_
    | refine w_exit ?_
    | refine w_ops ?_
    | refine w_opsD ?_
    | refine d_one ?_
    | refine d_nil ?_
    | ((refine i_cond ?_); first | refine w_condT rfl ?_ | refine w_condF rfl ?_)
    | ((refine i_nil ?_); first | refine d_same ?_ | refine d_ord ?_ | refine d_ext ⟨_, rfl⟩ ?_ | refine d_ext (extA _ _ _) ?_ | refine d_ext (by assumption) ?_ | refine w_end0 ?_ | refine w_end1 rfl ?_ | refine w_end2 rfl rfl ?_ | refine w_end3 rfl rfl rfl ?_ | refine w_end4 rfl rfl rfl rfl ?_ | refine w_end5 rfl rfl rfl rfl rfl ?_ | refine w_end6 rfl rfl rfl rfl rfl rfl ?_ | refine w_end7 rfl rfl rfl rfl rfl rfl rfl ?_ | refine w_end8 rfl rfl rfl rfl rfl rfl rfl rfl ?_ | refine w_end9 rfl rfl rfl rfl rfl rfl rfl rfl rfl ?_ | refine w_end10 rfl rfl rfl rfl rfl rfl rfl rfl rfl rfl ?_ | refine w_end11 rfl rfl rfl rfl rfl rfl rfl rfl rfl rfl rfl ?_ | refine w_end12 rfl rfl rfl rfl rfl rfl rfl rfl rfl rfl rfl rfl ?_ | refine w_end13 rfl rfl rfl rfl rfl rfl rfl rfl rfl rfl rfl rfl rfl ?_ | refine w_end14 rfl rfl rfl rfl rfl rfl rfl rfl rfl rfl rfl rfl rfl rfl ?_ | refine w_end15 rfl rfl rfl rfl rfl rfl rfl rfl rfl rfl rfl rfl rfl rfl rfl ?_ | refine w_end16 rfl rfl rfl rfl rfl rfl rfl rfl rfl rfl rfl rfl rfl rfl rfl rfl ?_)
    | ((refine i_cons ?_); first
      | (refine k_boxC rfl ?_; intro h1 e1 c1)
      | refine k_ldC rfl c1 ?_
      | (refine k_call rfl (k1 _ (hg.ext e1)) ?_; rintro v h2 ⟨e2, rfl⟩; have e3 := e1.trans e2)
      | refine k_skip rfl ?_
      | refine k_skipU rfl ?_
      | refine k_want rfl ?_
      | refine k_mv rfl ?_
      | refine k_pickT rfl rfl ?_
      | refine k_pickF rfl rfl ?_
      | refine k_notT rfl ?_
      | refine k_notF rfl ?_
      | refine k_add rfl rfl (by omega) ?_
      | refine k_sub rfl rfl (by omega) ?_
      | refine k_mul rfl rfl (by omega) ?_
      | refine k_neg rfl (by omega) ?_
      | refine k_quo rfl rfl (by omega) ?_
      | refine k_rem rfl rfl (by omega) ?_
      | refine k_conv rfl (by omega) ?_
      | refine k_max rfl rfl ?_
      | refine k_min rfl rfl ?_
      | refine k_lssT rfl rfl (by omega) ?_
      | refine k_lssF rfl rfl (by omega) ?_
      | refine k_lss rfl rfl (fun hc => ?_) (fun hc => ?_)
      | refine k_leqT rfl rfl (by omega) ?_
      | refine k_leqF rfl rfl (by omega) ?_
      | refine k_leq rfl rfl (fun hc => ?_) (fun hc => ?_)
      | refine k_gtrT rfl rfl (by omega) ?_
      | refine k_gtrF rfl rfl (by omega) ?_
      | refine k_gtr rfl rfl (fun hc => ?_) (fun hc => ?_)
      | refine k_geqT rfl rfl (by omega) ?_
      | refine k_geqF rfl rfl (by omega) ?_
      | refine k_geq rfl rfl (fun hc => ?_) (fun hc => ?_)
      | refine k_eqlT rfl rfl (by omega) ?_
      | refine k_eqlF rfl rfl (by omega) ?_
      | refine k_eql rfl rfl (fun hc => ?_) (fun hc => ?_)
      | refine k_neqT rfl rfl (by omega) ?_
      | refine k_neqF rfl rfl (by omega) ?_
      | refine k_neq rfl rfl (fun hc => ?_) (fun hc => ?_)
      | refine k_len rfl rfl ?_
      | refine k_ok rfl rfl ?_))
  exact ⟨.inr rfl, e3, rfl⟩
theorem call32 (h0 : Heap) (X O : SV) (g : Gr) (hg : IsG h0 X O g) (hv : VG g.1 g.2) :
    ∃ v h', Cal FT HKt 32 [.agg [X, O]] h0 v h' ∧ Ext h0 h' ∧ v = .sc (tb (fmtG g)) := by
  refine Cal.of (F := a32) rfl rfl rfl ?_
  obtain ⟨a, b, c, d⟩ := VG.two hv
  have h1 := listT_len g.1 a.i64
  have h2 := listT_len g.2 b.i64
  repeat' (first
    | refine w_seq ?_
    | refine w_seqN ?_
    | refine w_seqX ?_
    | refine w_seqR ?_
    | refine w_blk ?_
    | refine w_blkN ?_
    | refine w_blkX ?_
    | refine w_blkR ?_
    | refine w_skip ?_
    | refine w_ret ?_
    | refine w_exit ?_
    | refine w_ops ?_
    | refine w_opsD ?_
    | refine d_one ?_
    | refine d_nil ?_
    | ((refine i_cond ?_); first | refine w_condT rfl ?_ | refine w_condF rfl ?_)
    | ((refine i_nil ?_); first | refine d_same ?_ | refine d_ord ?_ | refine d_ext ⟨_, rfl⟩ ?_ | refine d_ext (extA _ _ _) ?_ | refine d_ext (by assumption) ?_ | refine w_end0 ?_ | refine w_end1 rfl ?_ | refine w_end2 rfl rfl ?_ | refine w_end3 rfl rfl rfl ?_ | refine w_end4 rfl rfl rfl rfl ?_ | refine w_end5 rfl rfl rfl rfl rfl ?_ | refine w_end6 rfl rfl rfl rfl rfl rfl ?_ | refine w_end7 rfl rfl rfl rfl rfl rfl rfl ?_ | refine w_end8 rfl rfl rfl rfl rfl rfl rfl rfl ?_ | refine w_end9 rfl rfl rfl rfl rfl rfl rfl rfl rfl ?_ | refine w_end10 rfl rfl rfl rfl rfl rfl rfl rfl rfl rfl ?_ | refine w_end11 rfl rfl rfl rfl rfl rfl rfl rfl rfl rfl rfl ?_ | refine w_end12 rfl rfl rfl rfl rfl rfl rfl rfl rfl rfl rfl rfl ?_ | refine w_end13 rfl rfl rfl rfl rfl rfl rfl rfl rfl rfl rfl rfl rfl ?_ | refine w_end14 rfl rfl rfl rfl rfl rfl rfl rfl rfl rfl rfl rfl rfl rfl ?_ | refine w_end15 rfl rfl rfl rfl rfl rfl rfl rfl rfl rfl rfl rfl rfl rfl rfl ?_ | refine w_end16 rfl rfl rfl rfl rfl rfl rfl rfl rfl rfl rfl rfl rfl rfl rfl rfl ?_)
    | ((refine i_cons ?_); first
      | (refine k_boxC rfl ?_; intro h1 e1 c1)
      | refine k_fldA rfl ?_
      | refine k_ldC0 rfl c1 ?_
      | refine k_ldC1 rfl c1 ?_
      | (refine k_call rfl (call47 _ X g.1 (hg.ext e1).x a (by omega)) ?_; rintro v h4 ⟨rfl, rfl⟩)
      | (refine k_call rfl (call47 _ O g.2 (hg.ext e1).o b (by omega)) ?_; rintro v h6 ⟨rfl, rfl⟩)
      | refine k_cat rfl rfl (by simp only [List.length_append, List.length_cons, List.length_nil]; omega) ?_
      | refine k_skip rfl ?_
      | refine k_skipU rfl ?_
      | refine k_want rfl ?_
      | refine k_mv rfl ?_
      | refine k_pickT rfl rfl ?_
      | refine k_pickF rfl rfl ?_
      | refine k_notT rfl ?_
      | refine k_notF rfl ?_
      | refine k_add rfl rfl (by omega) ?_
      | refine k_sub rfl rfl (by omega) ?_
      | refine k_mul rfl rfl (by omega) ?_
      | refine k_neg rfl (by omega) ?_
      | refine k_quo rfl rfl (by omega) ?_
      | refine k_rem rfl rfl (by omega) ?_
      | refine k_conv rfl (by omega) ?_
      | refine k_max rfl rfl ?_
      | refine k_min rfl rfl ?_
      | refine k_lssT rfl rfl (by omega) ?_
      | refine k_lssF rfl rfl (by omega) ?_
      | refine k_lss rfl rfl (fun hc => ?_) (fun hc => ?_)
      | refine k_leqT rfl rfl (by omega) ?_
      | refine k_leqF rfl rfl (by omega) ?_
      | refine k_leq rfl rfl (fun hc => ?_) (fun hc => ?_)
      | refine k_gtrT rfl rfl (by omega) ?_
      | refine k_gtrF rfl rfl (by omega) ?_
      | refine k_gtr rfl rfl (fun hc => ?_) (fun hc => ?_)
      | refine k_geqT rfl rfl (by omega) ?_
      | refine k_geqF rfl rfl (by omega) ?_
      | refine k_geq rfl rfl (fun hc => ?_) (fun hc => ?_)
      | refine k_eqlT rfl rfl (by omega) ?_
      | refine k_eqlF rfl rfl (by omega) ?_
      | refine k_eql rfl rfl (fun hc => ?_) (fun hc => ?_)
      | refine k_neqT rfl rfl (by omega) ?_
      | refine k_neqF rfl rfl (by omega) ?_
      | refine k_neq rfl rfl (fun hc => ?_) (fun hc => ?_)
      | refine k_len rfl rfl ?_
      | refine k_ok rfl rfl ?_))
  exact ⟨.inr rfl, e1, rfl⟩
end Go.Proofs.YtadelcikpkhclaaDoor
