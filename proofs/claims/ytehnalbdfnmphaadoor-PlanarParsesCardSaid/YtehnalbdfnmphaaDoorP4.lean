/- planar.Parse: the loop over the rows. -/
import Derived.Test.YtehnalbdfnmphaaDoorP3
import Derived.Test.YtehnalbdfnmphaaDoorPP2
import Derived.Test.YtehnalbdfnmphaaDoorD3
namespace Go.Proofs.YtehnalbdfnmphaaDoor
open Go.Ab
set_option linter.unusedVariables false
set_option linter.unusedSimpArgs false
set_option maxRecDepth 20000
set_option maxHeartbeats 4000000
attribute [local irreducible] wOps wA wSeq wBlk wRound wRoundI wOpsD

/-! ### Rows -/
def Row4 (rows : List (Int × List Int)) : Prop := ∀ p ∈ rows, (p.1 = 1 ∨ p.1 = -1) ∧ p.2.length = 4 ∧ ∀ v ∈ p.2, 1 ≤ v ∧ v ≤ 9999
theorem linL_rows : ∀ (ls : List (List UInt8)) (acc rows : List (Int × List Int)) (l : Int), Row4 acc → linL ls acc = some (rows, l) → Row4 rows ∧ 0 ≤ l ∧ l ≤ 999
  | [], acc, rows, l, ha, h => by simp [linL] at h
  | [_], acc, rows, l, ha, h => by simp [linL] at h
  | x :: y :: r, acc, rows, l, ha, h => by
    rw [linL_cons] at h
    split at h
    · split at h
      · rename_i v hv
        split at h
        · cases h
          exact ⟨ha, numA_range hv⟩
        · cases h
      · cases h
    · split at h
      · rename_i p hp
        refine linL_rows (y :: r) _ rows l ?_ h
        intro q hq
        rcases List.mem_append.1 hq with hq | hq
        · exact ha q hq
        · rw [List.mem_singleton] at hq
          subst hq
          exact crs_some (x := q.1) (l := q.2) hp
      · cases h
theorem Row4.nil : Row4 [] := fun p hp => by simp at hp
theorem Row4.tail {p : Int × List Int} {rows : List (Int × List Int)} (h : Row4 (p :: rows)) : Row4 rows := fun q hq => h q (List.mem_cons_of_mem _ hq)
theorem cells5_len : ∀ {rows : List (Int × List Int)}, Row4 rows → (cells5 rows).length = rows.length * 5
  | [], _ => rfl
  | p :: rows, h => by
    have ih := cells5_len h.tail
    have h4 := (h p (by simp)).2.1
    have e : cells5 (p :: rows) = (p.1 :: p.2).map (.int .i64) ++ cells5 rows := rfl
    rw [e, List.length_append, ih, List.length_map, List.length_cons, List.length_cons, h4]
    omega
theorem cells5_at : ∀ {rows : List (Int × List Int)} {c : Nat} {x : Int} {l : List Int}, Row4 rows → rows[c]? = some (x, l) → cut (cells5 rows) (c * 5) 5 = some ((x :: l).map (.int .i64))
  | [], c, x, l, _, h => by simp at h
  | p :: rows, 0, x, l, hr, h => by
    simp at h
    subst h
    have h4 := (hr (x, l) (by simp)).2.1
    have e : cells5 ((x, l) :: rows) = (x :: l).map (.int .i64) ++ cells5 rows := rfl
    have hl : ((x :: l).map (SV.int .i64)).length = 5 := by simp at h4 ⊢; exact h4
    unfold cut
    rw [e, Nat.zero_mul, List.drop_zero, if_pos (by rw [List.length_append]; omega), ← hl, List.take_left]
  | p :: rows, c + 1, x, l, hr, h => by
    rw [List.getElem?_cons_succ] at h
    have ih := cells5_at hr.tail h
    have h4 := (hr p (by simp)).2.1
    have e : cells5 (p :: rows) = (p.1 :: p.2).map (.int .i64) ++ cells5 rows := rfl
    have hl : ((p.1 :: p.2).map (SV.int .i64)).length = 5 := by simp [h4]
    unfold cut at ih ⊢
    rw [e, List.length_append, hl, show (c + 1) * 5 = 5 + c * 5 by omega]
    split at ih
    · rename_i hlt
      have hd : List.drop 5 ((p.1 :: p.2).map (SV.int .i64) ++ cells5 rows) = cells5 rows := by rw [← hl]; exact List.drop_left
      rw [if_pos (by omega), ← List.drop_drop, hd]
      exact ih
    · cases ih
theorem lbR_at : ∀ {rows : List (Int × List Int)} {c : Nat} {x : Int} {l : List Int} (s : Nat), Row4 rows → rows[c]? = some (x, l) → s < 4 → (lbR rows).getD (4 * c + s) 0 = l.getD s 0
  | [], c, x, l, s, _, h, hs => by simp at h
  | p :: rows, 0, x, l, s, hr, h, hs => by
    simp at h
    subst h
    have h4 := (hr (x, l) (by simp)).2.1
    have e : lbR ((x, l) :: rows) = l ++ lbR rows := rfl
    rw [e, List.getD_eq_getElem?_getD, List.getD_eq_getElem?_getD, List.getElem?_append_left (by simp at h4; omega)]
    simp
  | p :: rows, c + 1, x, l, s, hr, h, hs => by
    rw [List.getElem?_cons_succ] at h
    have ih := lbR_at s hr.tail h hs
    have h4 := (hr p (by simp)).2.1
    have e : lbR (p :: rows) = p.2 ++ lbR rows := rfl
    rw [e, List.getD_eq_getElem?_getD, List.getElem?_append_right (by omega), h4, show 4 * (c + 1) + s - 4 = 4 * c + s by omega, ← List.getD_eq_getElem?_getD]
    exact ih
theorem sgR_at {rows : List (Int × List Int)} {c : Nat} {x : Int} {l : List Int} (h : rows[c]? = some (x, l)) : (sgR rows)[c]? = some x := by simp [sgR, h]
theorem sgR_len (rows : List (Int × List Int)) : (sgR rows).length = rows.length := by simp [sgR]
theorem lbR_len {rows : List (Int × List Int)} (h : Row4 rows) : (lbR rows).length = 4 * rows.length := by
  induction rows with
  | nil => rfl
  | cons p rows ih =>
    have h4 := (h p (by simp)).2.1
    have e : lbR (p :: rows) = p.2 ++ lbR rows := rfl
    rw [e, List.length_append, ih h.tail, h4, List.length_cons]; omega
theorem sgR_sgn {rows : List (Int × List Int)} (h : Row4 rows) : ∀ x ∈ sgR rows, Sgn x := fun x hx => by
  obtain ⟨p, hp, rfl⟩ := List.mem_map.1 hx
  exact (h p hp).1

section
variable {FT : FuncId → Option AFun} {HK : FuncId → Option Hook} {E : Env} {h : Heap} {K : Env → Heap → Prop} {d : Option Nat} {r : List AOp} {x y : AO}
/-- An element of an array's value. -/
theorem k_idxG {n : Nat} {cs : List SV} {v : SV} {kd : IntKind} {j : Int} (hx : ev E x = some (.agg cs)) (hy : evS E y = some (.int kd j)) (hb : 0 ≤ j ∧ j < n) (hv : cs[j.toNat]? = some v)
    (hw : wOps FT HK r (bindE d (some (.sc v)) E) h K) : wOps FT HK (⟨d, .idxG n 1 false x y, none⟩ :: r) E h K := by
  have hc : cut cs (j.toNat * 1) 1 = some [v] := by have := cut1 hv; rwa [Nat.zero_add] at this
  refine op_ok rfl rfl ?_ hw
  simp only [step1, hx, hy]
  rw [if_pos hb]
  have e : (1 : ESz).n = 1 := rfl
  simp only [hc, Option.bind_some]
  rfl
/-- A write to the first cell of memory. -/
theorem k_st0 {V : Heap} {p : AO} {q1 q2 q3 a b c : SV} (ha : evS E p = some (.ptr 0 0)) (hx : ev E x = some (.agg [a, b, c])) (hw : wOps FT HK r (bindE d none E) (.cells [a, b, c] true 0 :: V) K) :
    wOps FT HK (⟨d, .st 3 p x, none⟩ :: r) E (.cells [q1, q2, q3] true 0 :: V) K :=
  op_ok (v := none) (h' := .cells [a, b, c] true 0 :: V) rfl rfl (by simp [step1, ha, hx, AV.cells, writeN, splice]) hw
end

/-! ### Memory -/
abbrev D1 (h0 : Heap) (n : Nat) (l : Int) : Blk := .cells [.slc (h0.length + 0) 0 n (some n), .slc (h0.length + 1) 0 (4 * n) (some (4 * n)), .int .i64 l] true 0
/-- Memory in Parse: signs, mates, the diagram's cell, the maps, and what is no more of use. -/
abbrev PH (T : Heap) (S M : List Int) (n : Nat) (l : Int) (o i : List (Int × Int)) (U : Heap) : Heap := (R0 :: T) ++ (EX S :: EX M :: D1 (R0 :: T) n l :: MB o :: MB i :: U)
/-- The signs, those below c written. -/
def sgW (S : List Int) (c : Nat) : List Int := S.take c ++ List.replicate (S.length - c) 0
theorem sgW_len {S : List Int} {c : Nat} (h : c ≤ S.length) : (sgW S c).length = S.length := by simp [sgW]; omega
theorem sgW_set {S : List Int} {c : Nat} {x : Int} (h : S[c]? = some x) : (sgW S c).set c x = sgW S (c + 1) := by
  have hl := (List.getElem?_eq_some_iff.1 h).1
  unfold sgW
  rw [List.set_append_right _ _ (by simp; omega)]
  have : c - (S.take c).length = 0 := by simp; omega
  rw [this, take_snoc h, List.append_assoc, show S.length - c = (S.length - (c + 1)) + 1 by omega, List.replicate_succ]
  rfl
theorem sgW_all (S : List Int) : sgW S S.length = S := by simp [sgW]

section
variable (T : Heap) (rows : List (Int × List Int)) (l : Int) (u : SV)
def I22s (c : Nat) (x : Int) (ls : List Int) (U : Heap) (E : Env) (h : Heap) : Prop := ∃ s : Nat, s ≤ 4 ∧ ND (sgR rows) (lbR rows) (4 * c + s) ∧
  h = PH T (sgW (sgR rows) (c + 1)) (List.replicate (4 * rows.length) 0) rows.length l (dirE (sgR rows) (lbR rows) true (4 * c + s)) (dirE (sgR rows) (lbR rows) false (4 * c + s)) (U ++ [E0 (x :: ls)]) ∧
  E = [(2, some (.sc (.ptr 0 0))), (8, some (.sc (.ptr ((R0 :: T).length + 2) 0))), (9, some (.sc (.mapv ((R0 :: T).length + 3)))), (10, some (.sc (.mapv ((R0 :: T).length + 4)))), (11, some (.sc (.int .i64 (c : Nat)))), (12, some (.sc (.ptr ((R0 :: T).length + (U.length + 5)) 0))),
    (53, some (.sc u)), (54, some (.sc (.int .i64 (rows.length : Nat)))), (55, some (.sc (.int .i64 (c : Nat)))), (67, some (.agg (ls.map (.int .i64)))), (68, some (.sc (.int .i64 (s : Nat))))]
def R22s (c : Nat) (x : Int) (ls : List Int) (U : Heap) (ex : Ex) (E : Env) (h : Heap) : Prop := match ex with
  | .rt => ¬ ND (sgR rows) (lbR rows) (4 * rows.length) ∧ (∃ V, h = R0 :: V) ∧ E = [(2, some (.sc (.ptr 0 0))), (3, some (.sc (.int .i64 3)))]
  | .ex z => z = 2 ∧ ND (sgR rows) (lbR rows) (4 * (c + 1)) ∧
    h = PH T (sgW (sgR rows) (c + 1)) (List.replicate (4 * rows.length) 0) rows.length l (dirE (sgR rows) (lbR rows) true (4 * (c + 1))) (dirE (sgR rows) (lbR rows) false (4 * (c + 1))) (U ++ [E0 (x :: ls)]) ∧ ∃ a1 a2 a3 a4 a5,
    E = [(2, some (.sc (.ptr 0 0))), (8, some (.sc (.ptr ((R0 :: T).length + 2) 0))), (9, some (.sc (.mapv ((R0 :: T).length + 3)))), (10, some (.sc (.mapv ((R0 :: T).length + 4)))), (11, a1), (12, a2),
      (53, some (.sc u)), (54, some (.sc (.int .i64 (rows.length : Nat)))), (55, some (.sc (.int .i64 (c : Nat)))), (67, a3), (68, a4), (69, a5)]
  | .nm => False
theorem round22s (hr : Row4 rows) (hn : rows.length ≤ 64) (c : Nat) (x : Int) (ls : List Int) (hc : rows[c]? = some (x, ls)) (U : Heap) (E : Env) (h : Heap) (hI : I22s T rows l u c x ls U E h) :
    wA FT HKp b22L1 (E.keep [2, 8, 9, 10, 11, 12, 53, 54, 55, 67, 68]) h (wRound (I22s T rows l u c x ls U) (cntV 4 68) (cntV 4 68 E h) (R22s T rows l u c x ls U)) := by
  obtain ⟨s, hs, hnd, rfl, rfl⟩ := hI
  have hcl := (List.getElem?_eq_some_iff.1 hc).1
  have hl4 := (hr (x, ls) (List.mem_of_getElem? hc)).2.1
  by_cases hlt : s < 4
  · obtain ⟨v, hv⟩ : ∃ v, ls[s]? = some v := ⟨_, List.getElem?_eq_getElem (by simp at hl4; omega)⟩
    have hlab : (lbR rows).getD (4 * c + s) 0 = v := by rw [lbR_at s hr hc hlt]; simp [List.getD, hv]
    have hxd : (sgR rows).getD c 0 = x := by simp [List.getD, sgR_at hc]
    have hob : outB (sgR rows) (4 * c + s) = outS x s := by rw [outB_at hlt, hxd]
    have hv' : ∀ {j : Int}, j = (s : Nat) → (ls.map (SV.int .i64))[j.toNat]? = some (.int .i64 v) := fun hj => by subst hj; rw [Int.toNat_natCast]; simp [hv]
    generalize hSw : sgW (sgR rows) (c + 1) = Sw
    generalize hZ : List.replicate (4 * rows.length) (0 : Int) = Z
    have hrx : ∀ (a b c d e : Blk), readN (a :: b :: c :: d :: e :: (U ++ [E0 (x :: ls)])) (U.length + 5) (0 + 0) 1 = some [.int .i64 x] := fun a b c d e => by
      have : (a :: b :: c :: d :: e :: (U ++ [E0 (x :: ls)]))[U.length + 5]? = some (E0 (x :: ls)) := by simp
      simp only [readN, this]
      rfl
    have k1 := fun h => call39 (HK := HKp) rfl h x s hlt
    cases hd : outS x s with
    | true =>
      rw [hd] at k1
      rw [hd] at hob
      cases hg : getI (dirE (sgR rows) (lbR rows) true (4 * c + s)) v with
      | some w =>
        have hbad : ¬ ND (sgR rows) (lbR rows) (4 * rows.length) := ND.bad (H := 4 * c + s) (v := w) (by omega) (by rw [hob, hlab]; exact hg)
        repeat' (first | refine w_seq ?_ | refine w_seqN ?_ | refine w_seqR ?_ | refine w_blk ?_ | refine w_blkR ?_ | refine w_skip ?_ | refine w_ret ?_ | refine w_ops ?_ | ((refine i_cond ?_); refine w_condT rfl ?_) | ((refine i_nil ?_); first | refine w_end2 rfl rfl ?_ | refine w_end12 rfl rfl rfl rfl rfl rfl rfl rfl rfl rfl rfl rfl ?_ | refine w_end13 rfl rfl rfl rfl rfl rfl rfl rfl rfl rfl rfl rfl rfl ?_ | refine w_end14 rfl rfl rfl rfl rfl rfl rfl rfl rfl rfl rfl rfl rfl rfl ?_ | refine w_end15 rfl rfl rfl rfl rfl rfl rfl rfl rfl rfl rfl rfl rfl rfl rfl ?_) | ((refine i_cons ?_); first | refine k_idxG rfl rfl (by omega) (hv' (by omega)) ?_ | refine k_fldA rfl ?_ | refine k_ldL rfl (hrx _ _ _ _ _) ?_ | (refine k_call rfl (k1 _) ?_; rintro v h3 ⟨rfl, rfl⟩) | refine k_mpL rfl rfl rfl hg ?_ | refine k_st0 rfl rfl ?_ | refine k_mv rfl ?_ | refine k_lssT rfl rfl (by omega) ?_ | refine k_ok rfl rfl ?_))
        exact w_roundR ⟨hbad, ⟨_, rfl⟩, rfl⟩
      | none =>
        repeat' (first | refine w_seq ?_ | refine w_seqN ?_ | refine w_blk ?_ | refine w_blkN ?_ | refine w_skip ?_ | refine w_ops ?_ | ((refine i_cond ?_); first | refine w_condT rfl ?_ | refine w_condF rfl ?_) | ((refine i_nil ?_); first | refine w_end11 rfl rfl rfl rfl rfl rfl rfl rfl rfl rfl rfl ?_ | refine w_end12 rfl rfl rfl rfl rfl rfl rfl rfl rfl rfl rfl rfl ?_ | refine w_end13 rfl rfl rfl rfl rfl rfl rfl rfl rfl rfl rfl rfl rfl ?_ | refine w_end14 rfl rfl rfl rfl rfl rfl rfl rfl rfl rfl rfl rfl rfl rfl ?_ | refine w_end15 rfl rfl rfl rfl rfl rfl rfl rfl rfl rfl rfl rfl rfl rfl rfl ?_) | ((refine i_cons ?_); first | refine k_idxG rfl rfl (by omega) (hv' (by omega)) ?_ | refine k_fldA rfl ?_ | refine k_ldL rfl (hrx _ _ _ _ _) ?_ | (refine k_call rfl (k1 _) ?_; rintro v h3 ⟨rfl, rfl⟩) | refine k_mpL rfl rfl rfl hg ?_ | refine k_mpU rfl rfl rfl rfl hg ?_ | refine k_mv rfl ?_ | refine k_add rfl rfl (by omega) ?_ | refine k_mul rfl rfl (by omega) ?_ | refine k_lssT rfl rfl (by omega) ?_ | refine k_ok rfl rfl ?_))
        refine w_roundN ⟨s + 1, by omega, ND.next (H := 4 * c + s) hnd (by rw [hob, hlab]; exact hg), ?_, rfl⟩ (by simp [cntV, Env.get]; omega)
        rw [← Nat.add_assoc, dirE_yes hob, dirE_no (b := false) (by rw [hob]; rfl), hlab, show ((4 * c + s : Nat) : Int) = 4 * (c : Int) + (s : Int) by omega, hSw, hZ]
        rfl
    | false =>
      rw [hd] at k1
      rw [hd] at hob
      cases hg : getI (dirE (sgR rows) (lbR rows) false (4 * c + s)) v with
      | some w =>
        have hbad : ¬ ND (sgR rows) (lbR rows) (4 * rows.length) := ND.bad (H := 4 * c + s) (v := w) (by omega) (by rw [hob, hlab]; exact hg)
        repeat' (first | refine w_seq ?_ | refine w_seqN ?_ | refine w_seqR ?_ | refine w_blk ?_ | refine w_blkR ?_ | refine w_skip ?_ | refine w_ret ?_ | refine w_ops ?_ | ((refine i_cond ?_); first | refine w_condT rfl ?_ | refine w_condF rfl ?_) | ((refine i_nil ?_); first | refine w_end2 rfl rfl ?_ | refine w_end12 rfl rfl rfl rfl rfl rfl rfl rfl rfl rfl rfl rfl ?_ | refine w_end13 rfl rfl rfl rfl rfl rfl rfl rfl rfl rfl rfl rfl rfl ?_ | refine w_end14 rfl rfl rfl rfl rfl rfl rfl rfl rfl rfl rfl rfl rfl rfl ?_ | refine w_end15 rfl rfl rfl rfl rfl rfl rfl rfl rfl rfl rfl rfl rfl rfl rfl ?_) | ((refine i_cons ?_); first | refine k_idxG rfl rfl (by omega) (hv' (by omega)) ?_ | refine k_fldA rfl ?_ | refine k_ldL rfl (hrx _ _ _ _ _) ?_ | (refine k_call rfl (k1 _) ?_; rintro v h3 ⟨rfl, rfl⟩) | refine k_mpL rfl rfl rfl hg ?_ | refine k_st0 rfl rfl ?_ | refine k_mv rfl ?_ | refine k_lssT rfl rfl (by omega) ?_ | refine k_ok rfl rfl ?_))
        exact w_roundR ⟨hbad, ⟨_, rfl⟩, rfl⟩
      | none =>
        repeat' (first | refine w_seq ?_ | refine w_seqN ?_ | refine w_blk ?_ | refine w_blkN ?_ | refine w_skip ?_ | refine w_ops ?_ | ((refine i_cond ?_); first | refine w_condT rfl ?_ | refine w_condF rfl ?_) | ((refine i_nil ?_); first | refine w_end11 rfl rfl rfl rfl rfl rfl rfl rfl rfl rfl rfl ?_ | refine w_end12 rfl rfl rfl rfl rfl rfl rfl rfl rfl rfl rfl rfl ?_ | refine w_end13 rfl rfl rfl rfl rfl rfl rfl rfl rfl rfl rfl rfl rfl ?_ | refine w_end14 rfl rfl rfl rfl rfl rfl rfl rfl rfl rfl rfl rfl rfl rfl ?_ | refine w_end15 rfl rfl rfl rfl rfl rfl rfl rfl rfl rfl rfl rfl rfl rfl rfl ?_) | ((refine i_cons ?_); first | refine k_idxG rfl rfl (by omega) (hv' (by omega)) ?_ | refine k_fldA rfl ?_ | refine k_ldL rfl (hrx _ _ _ _ _) ?_ | (refine k_call rfl (k1 _) ?_; rintro v h3 ⟨rfl, rfl⟩) | refine k_mpL rfl rfl rfl hg ?_ | refine k_mpU rfl rfl rfl rfl hg ?_ | refine k_mv rfl ?_ | refine k_add rfl rfl (by omega) ?_ | refine k_mul rfl rfl (by omega) ?_ | refine k_lssT rfl rfl (by omega) ?_ | refine k_ok rfl rfl ?_))
        refine w_roundN ⟨s + 1, by omega, ND.next (H := 4 * c + s) hnd (by rw [hob, hlab]; exact hg), ?_, rfl⟩ (by simp [cntV, Env.get]; omega)
        rw [← Nat.add_assoc, dirE_no (b := true) (by rw [hob]; rfl), dirE_yes hob, hlab, show ((4 * c + s : Nat) : Int) = 4 * (c : Int) + (s : Int) by omega, hSw, hZ]
        rfl
  · have : s = 4 := by omega
    subst this
    repeat' (first | refine w_seq ?_ | refine w_seqN ?_ | refine w_seqX ?_ | refine w_exit ?_ | refine w_ops ?_ | ((refine i_cond ?_); refine w_condF rfl ?_) | ((refine i_nil ?_); refine w_end12 rfl rfl rfl rfl rfl rfl rfl rfl rfl rfl rfl rfl ?_) | ((refine i_cons ?_); refine k_lssF rfl rfl (by omega) ?_))
    exact w_roundX ⟨rfl, hnd, rfl, _, _, _, _, _, rfl⟩
end
end Go.Proofs.YtehnalbdfnmphaaDoor
