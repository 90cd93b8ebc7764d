/- planar.Parse: the loop over the map. -/
import Derived.Test.YtehnalbdfnmphaaDoorP5
import Derived.Test.YtehnalbdfnmphaaDoorPP3
namespace Go.Proofs.YtehnalbdfnmphaaDoor
open Go.Ab
set_option linter.unusedVariables false
set_option linter.unusedSimpArgs false
set_option maxRecDepth 20000
set_option maxHeartbeats 4000000
attribute [local irreducible] wOps wA wSeq wBlk wRound wRoundI wOpsD

section
variable (T : Heap) (rows : List (Int × List Int)) (l : Int) (U : Heap)
abbrev Oall : List (Int × Int) := dirE (sgR rows) (lbR rows) true (4 * rows.length)
abbrev Iall : List (Int × Int) := dirE (sgR rows) (lbR rows) false (4 * rows.length)
abbrev itB (seen : List Nat) : Blk := .cells (iterB ((R0 :: T).length + 3) (Oall rows).length seen) true zIt
def I22m (E : Env) (h : Heap) : Prop := ∃ (M : List Int) (seen : List Nat), Gd (sgR rows) (lbR rows) (4 * rows.length) M seen ∧
  h = PH T (sgR rows) M rows.length l (Oall rows) (Iall rows) (U ++ [itB T rows seen]) ∧
  E = [(2, some (.sc (.ptr 0 0))), (8, some (.sc (.ptr ((R0 :: T).length + 2) 0))), (10, some (.sc (.mapv ((R0 :: T).length + 4)))), (95, some (.sc (.itv ((R0 :: T).length + (U.length + 5)))))]
/-- Entries that were not seen. -/
def leftI (E : Env) (h : Heap) : Nat := match E.get 95 with
  | some (.sc (.itv id)) => match h[id]? with
    | some (.cells cs _ _) => (Oall rows).length + 2 - cs.length
    | _ => 0
  | _ => 0
def R22m (ex : Ex) (E : Env) (h : Heap) : Prop := match ex with
  | .rt => ¬ MA (sgR rows) (lbR rows) (4 * rows.length) ∧ (∃ V, h = R0 :: V) ∧ E = [(2, some (.sc (.ptr 0 0))), (3, some (.sc (.int .i64 3)))]
  | .ex z => z = 4 ∧ MA (sgR rows) (lbR rows) (4 * rows.length) ∧ (∃ V, h = PH T (sgR rows) (mtL (sgR rows) (lbR rows) (4 * rows.length)) rows.length l (Oall rows) (Iall rows) V) ∧ ∃ a b c,
    E = [(2, some (.sc (.ptr 0 0))), (8, some (.sc (.ptr ((R0 :: T).length + 2) 0))), (10, a), (95, b), (97, c)]
  | .nm => False
theorem leftI_at (M : List Int) (seen : List Nat) : leftI rows [(2, some (.sc (.ptr 0 0))), (8, some (.sc (.ptr ((R0 :: T).length + 2) 0))), (10, some (.sc (.mapv ((R0 :: T).length + 4)))), (95, some (.sc (.itv ((R0 :: T).length + (U.length + 5)))))]
    (PH T (sgR rows) M rows.length l (Oall rows) (Iall rows) (U ++ [itB T rows seen])) = (Oall rows).length - seen.length := by
  have e1 : (PH T (sgR rows) M rows.length l (Oall rows) (Iall rows) (U ++ [itB T rows seen]))[(R0 :: T).length + (U.length + 5)]? = some (itB T rows seen) := by
    rw [get_app]; simp
  have e2 : Env.get [(2, some (.sc (.ptr 0 0))), (8, some (.sc (.ptr ((R0 :: T).length + 2) 0))), (10, some (.sc (.mapv ((R0 :: T).length + 4)))), (95, some (.sc (.itv ((R0 :: T).length + (U.length + 5)))))] 95 = some (.sc (.itv ((R0 :: T).length + (U.length + 5)))) := rfl
  unfold leftI
  rw [e2]
  simp only []
  rw [e1]
  simp only [iterB, seenV, List.length_cons, List.length_map]
  omega
variable [Base]
theorem round22m (hk : HKok Tryd.prog HKp) (hr : Row4 rows) (hn : rows.length ≤ 64) (hnd : ND (sgR rows) (lbR rows) (4 * rows.length)) (n : Nat) (E : Env) (h : Heap) (hI : I22m T rows l U E h) :
    RW Tryd.prog n b22L2 (E.keep [2, 8, 10, 95]) h (wRound (I22m T rows l U) (leftI rows) (leftI rows E h) (R22m T rows l)) := by
  obtain ⟨M, seen, hG, rfl, rfl⟩ := hI
  have hsg := sgR_sgn hr
  have hsl := sgR_len rows
  rw [leftI_at]
  refine RW.seq ?_
  refine RW.nextII (h0 := R0 :: T) (it := U.length + 5) (m := 3) (es := Oall rows) (seen := seen) ft_ok hk rfl (by simp) rfl ?_ ?_
  · intro hall
    obtain ⟨hMA, hM⟩ := Gd.all (S := sgR rows) (Lb := lbR rows) hsg (by rw [hsl]; exact hnd) (by rw [hsl]; exact hG) (by rw [hsl]; exact hall)
    rw [hsl] at hMA hM
    repeat' (first | refine w_seqN ?_ | ((refine i_nil ?_); refine w_end5 rfl rfl rfl rfl rfl ?_) | ((refine i_cons ?_); refine k_ok rfl rfl ?_))
    refine RW.det ft_ok hk ?_
    repeat' (first | refine w_seq ?_ | refine w_seqX ?_ | refine w_exit ?_ | ((refine i_cond ?_); refine w_condF rfl ?_))
    exact w_roundX ⟨rfl, hMA, ⟨_, by rw [hM]⟩, _, _, _, rfl⟩
  · intro i p hp hns
    have hil := (List.getElem?_eq_some_iff.1 hp).1
    have hset : ∀ (a b c d e : Blk) (x y : Blk), (a :: b :: c :: d :: e :: (U ++ [x])).set (U.length + 5) y = a :: b :: c :: d :: e :: (U ++ [y]) := fun a b c d e x y => by simp
    rw [hset]
    have hit : ∀ (a b c d e : Blk), (a :: b :: c :: d :: e :: (U ++ [itB T rows (seen ++ [i])]))[U.length + 5]? = some (itB T rows (seen ++ [i])) := fun a b c d e => by simp
    have hlt := hG.lt hil hns
    repeat' (first | refine w_seqN ?_ | ((refine i_nil ?_); refine w_end5 rfl rfl rfl rfl rfl ?_) | ((refine i_cons ?_); refine k_ok rfl rfl ?_))
    refine RW.det ft_ok hk ?_
    cases hv : getI (Iall rows) p.1 with
    | none =>
      have hbad := Gd.bad hp hv
      repeat' (first | refine w_seq ?_ | refine w_seqN ?_ | refine w_seqR ?_ | refine w_blk ?_ | refine w_blkR ?_ | refine w_skip ?_ | refine w_ret ?_ | refine w_ops ?_ | ((refine i_cond ?_); refine w_condT rfl ?_) | ((refine i_nil ?_); first | refine w_end2 rfl rfl ?_ | refine w_end6 rfl rfl rfl rfl rfl rfl ?_ | refine w_end7 rfl rfl rfl rfl rfl rfl rfl ?_) | ((refine i_cons ?_); first | refine k_mpT rfl (hit _ _ _ _ _) rfl rfl hp ?_ | refine k_mpL rfl rfl rfl hv ?_ | refine k_st0 rfl rfl ?_ | refine k_mv rfl ?_ | refine k_notF rfl ?_ | refine k_ok rfl rfl ?_))
      exact w_roundR ⟨hbad, ⟨_, rfl⟩, rfl⟩
    | some v =>
      obtain ⟨h, g, e1, e2, h1, g1, hG'⟩ := hG.step hnd hp hns hv
      have hml := hG.1
      have hw1 : ∀ {x : Int} {j : Int}, j = (h : Nat) → ∀ (a c d e : Blk) (V : Heap), writeN (a :: EX M :: c :: d :: e :: V) 1 (0 + j.toNat * 1) [.int .i64 x] = some (a :: EX (M.set h x) :: c :: d :: e :: V) := fun {x j} hj a c d e V => wrL (k := 1) (i := h) (L := a :: EX M :: c :: d :: e :: V) rfl (by omega) hj
      have hw2 : ∀ {x y : Int} {j : Int}, j = (g : Nat) → ∀ (a c d e : Blk) (V : Heap), writeN (a :: EX (M.set h y) :: c :: d :: e :: V) 1 (0 + j.toNat * 1) [.int .i64 x] = some (a :: EX ((M.set h y).set g x) :: c :: d :: e :: V) := fun {x y j} hj a c d e V => wrL (k := 1) (i := g) (L := a :: EX (M.set h y) :: c :: d :: e :: V) rfl (by rw [List.length_set]; omega) hj
      obtain ⟨p1, p2⟩ := p
      simp only at e1 hv
      subst e1 e2
      repeat' (first | refine w_seq ?_ | refine w_seqN ?_ | refine w_blk ?_ | refine w_blkN ?_ | refine w_skip ?_ | refine w_ops ?_ | ((refine i_cond ?_); first | refine w_condT rfl ?_ | refine w_condF rfl ?_) | ((refine i_nil ?_); first | refine w_end4 rfl rfl rfl rfl ?_ | refine w_end6 rfl rfl rfl rfl rfl rfl ?_ | refine w_end7 rfl rfl rfl rfl rfl rfl rfl ?_) | ((refine i_cons ?_); first | refine k_mpT rfl (hit _ _ _ _ _) rfl rfl hp ?_ | refine k_mpL rfl rfl rfl hv ?_ | refine k_fldA rfl ?_ | refine k_ldL rfl rfl ?_ | refine k_idxA (j := (g : Int)) rfl rfl (by omega) ?_ | refine k_idxA (j := (h : Int)) rfl rfl (by omega) ?_ | refine k_stL rfl rfl rfl rfl (hw1 (by omega) _ _ _ _ _) ?_ | refine k_stL rfl rfl rfl rfl (hw2 (by omega) _ _ _ _ _) ?_ | refine k_mv rfl ?_ | refine k_notT rfl ?_ | refine k_ok rfl rfl ?_))
      refine w_roundN ⟨_, seen ++ [i], hG', rfl, rfl⟩ ?_
      have := leftI_at T rows l U ((M.set h (g : Int)).set g (h : Int)) (seen ++ [i])
      have e3 : (seen ++ [i]).length = seen.length + 1 := by simp
      rw [e3] at this
      exact Nat.lt_of_le_of_lt (Nat.le_of_eq this) (Nat.sub_lt_sub_left hlt (Nat.lt_succ_self _))
end
end Go.Proofs.YtehnalbdfnmphaaDoor
