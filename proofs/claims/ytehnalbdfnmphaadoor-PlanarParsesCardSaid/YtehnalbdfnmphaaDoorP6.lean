/- planar.Parse: the loop over the rows, and the loop over the map. -/
import Derived.Test.YtehnalbdfnmphaaDoorP4
import Derived.Test.YtehnalbdfnmphaaDoorPP4
namespace Go.Proofs.YtehnalbdfnmphaaDoor
open Go.Ab
set_option linter.unusedVariables false
set_option linter.unusedSimpArgs false
set_option maxRecDepth 20000
set_option maxHeartbeats 4000000
attribute [local irreducible] wOps wA wSeq wBlk wRound wRoundI wOpsD

section
variable (T : Heap) (rows : List (Int × List Int)) (l : Int) (u : SV)
def I22c (E : Env) (h : Heap) : Prop := ∃ (c : Nat) (U : Heap), c ≤ rows.length ∧ ND (sgR rows) (lbR rows) (4 * c) ∧
  h = PH T (sgW (sgR rows) c) (List.replicate (4 * rows.length) 0) rows.length l (dirE (sgR rows) (lbR rows) true (4 * c)) (dirE (sgR rows) (lbR rows) false (4 * c)) U ∧
  E = [(2, some (.sc (.ptr 0 0))), (8, some (.sc (.ptr ((R0 :: T).length + 2) 0))), (9, some (.sc (.mapv ((R0 :: T).length + 3)))), (10, some (.sc (.mapv ((R0 :: T).length + 4)))),
    (53, some (.sc u)), (54, some (.sc (.int .i64 (rows.length : Nat)))), (55, some (.sc (.int .i64 (c : Nat))))]
def R22c (ex : Ex) (E : Env) (h : Heap) : Prop := match ex with
  | .rt => ¬ ND (sgR rows) (lbR rows) (4 * rows.length) ∧ (∃ V, h = R0 :: V) ∧ E = [(2, some (.sc (.ptr 0 0))), (3, some (.sc (.int .i64 3)))]
  | .ex z => z = 0 ∧ ND (sgR rows) (lbR rows) (4 * rows.length) ∧ (∃ U,
    h = PH T (sgR rows) (List.replicate (4 * rows.length) 0) rows.length l (dirE (sgR rows) (lbR rows) true (4 * rows.length)) (dirE (sgR rows) (lbR rows) false (4 * rows.length)) U) ∧ ∃ a1 a2 a3 a4,
    E = [(2, some (.sc (.ptr 0 0))), (8, some (.sc (.ptr ((R0 :: T).length + 2) 0))), (9, some (.sc (.mapv ((R0 :: T).length + 3)))), (10, some (.sc (.mapv ((R0 :: T).length + 4)))),
      (53, a1), (54, a2), (55, a3), (56, a4)]
  | .nm => False
theorem round22c (hr : Row4 rows) (hn : rows.length ≤ 64) (hu : Own5 [] (R0 :: T) u rows.length (cells5 rows)) (E : Env) (h : Heap) (hI : I22c T rows l u E h) :
    wA FT HKp b22L0 (E.keep [2, 8, 9, 10, 53, 54, 55]) h (wRound (I22c T rows l u) (cntV rows.length 55) (cntV rows.length 55 E h) (R22c T rows l)) := by
  obtain ⟨c, U, hc, hnd, rfl, rfl⟩ := hI
  by_cases hlt : c < rows.length
  · obtain ⟨p, hp⟩ : ∃ p, rows[c]? = some p := ⟨_, List.getElem?_eq_getElem hlt⟩
    obtain ⟨x, ls⟩ := p
    have hl4 := (hr (x, ls) (List.mem_of_getElem? hp)).2.1
    obtain ⟨l1, l2, l3, l4, rfl⟩ : ∃ a b c d, ls = [a, b, c, d] := by
      match ls, hl4 with
      | [a, b, c, d], _ => exact ⟨a, b, c, d, rfl⟩
    have hsx := sgR_at hp
    have hset := sgW_set hsx
    have hSl : (sgW (sgR rows) c).length = rows.length := by rw [sgW_len (by rw [sgR_len]; omega), sgR_len]
    generalize hSw : sgW (sgR rows) c = Sw at hset hSl ⊢
    generalize hZ : List.replicate (4 * rows.length) (0 : Int) = Z
    obtain ⟨id, rfl, -, hid, -, -⟩ : ∃ id, u = .slc id 0 rows.length none ∧ ([] : Heap).length ≤ id ∧ (R0 :: T)[id]? = some (.cells (cells5 rows) true 5) ∧ (cells5 rows).length = rows.length * 5 ∧ 0 < rows.length := by
      rcases hu with ⟨-, h0, -⟩ | h
      · omega
      · exact h
    have hrr : ∀ (L : Heap) {j : Int}, j = (c : Nat) → readN ((R0 :: T) ++ L) id (0 + j.toNat * 5) 5 = some [.int .i64 x, .int .i64 l1, .int .i64 l2, .int .i64 l3, .int .i64 l4] := fun L j hj => by
      subst hj
      rw [Int.toNat_natCast]
      have hil := (List.getElem?_eq_some_iff.1 hid).1
      simp only [readN, List.getElem?_append_left hil, hid]
      rw [Nat.zero_add]
      exact cells5_at hr hp
    have hg : ∀ (a b c d e : Blk) (z : Blk), (a :: b :: c :: d :: e :: (U ++ [z]))[U.length + 5]? = some z := fun a b c d e z => by simp
    have hw5 : ∀ (a b c d e : Blk), writeN (a :: b :: c :: d :: e :: (U ++ [.cells [.int .i64 0, .int .i64 0, .int .i64 0, .int .i64 0, .int .i64 0] true 0])) (U.length + 5) 0 [.int .i64 x, .int .i64 l1, .int .i64 l2, .int .i64 l3, .int .i64 l4] = some (a :: b :: c :: d :: e :: (U ++ [E0 (x :: [l1, l2, l3, l4])])) := fun a b c d e => by
      simp only [writeN, hg]
      rw [if_pos (by simp)]
      simp [splice]
    have hrx : ∀ (a b c d e : Blk), readN (a :: b :: c :: d :: e :: (U ++ [E0 (x :: [l1, l2, l3, l4])])) (U.length + 5) (0 + 0) 1 = some [.int .i64 x] := fun a b c d e => by
      simp only [readN, hg]; rfl
    have hr4 : ∀ (a b c d e : Blk), readN (a :: b :: c :: d :: e :: (U ++ [E0 (x :: [l1, l2, l3, l4])])) (U.length + 5) (0 + 1) 4 = some ([l1, l2, l3, l4].map (.int .i64)) := fun a b c d e => by
      simp only [readN, hg]; rfl
    repeat' (first | refine w_seq ?_ | refine w_seqN ?_ | refine w_blk ?_ | refine w_skip ?_ | refine w_ops ?_ | ((refine i_cond ?_); refine w_condT rfl ?_) | ((refine i_nil ?_); first | refine w_end8 rfl rfl rfl rfl rfl rfl rfl rfl ?_ | refine w_end9 rfl rfl rfl rfl rfl rfl rfl rfl rfl ?_ | refine w_end11 rfl rfl rfl rfl rfl rfl rfl rfl rfl rfl rfl ?_) | ((refine i_cons ?_); first | refine k_idxA rfl rfl (by omega) ?_ | refine op_ldA rfl rfl (hrr _ (by omega)) ?_ | refine k_newL ?_ | refine k_stL rfl rfl rfl rfl (hw5 _ _ _ _ _) ?_ | refine k_fldA rfl ?_ | refine k_ldL rfl rfl ?_ | refine k_ldL rfl (hrx _ _ _ _ _) ?_ | refine k_stL rfl rfl rfl rfl (wrL (k := 0) (i := c) rfl (by omega) (by omega)) ?_ | refine k_ldAL rfl (hr4 _ _ _ _ _) ?_ | refine k_mv rfl ?_ | refine k_lssT rfl rfl (by omega) ?_))
    refine w_loop (I22s T rows l (.slc id 0 rows.length none) c x [l1, l2, l3, l4] U) (cntV 4 68) (R22s T rows l (.slc id 0 rows.length none) c x [l1, l2, l3, l4] U) ⟨0, by omega, hnd, by rw [← hset, hZ]; rfl, rfl⟩ (round22s T rows l (.slc id 0 rows.length none) hr hn c x [l1, l2, l3, l4] hp U) ?_
    rintro ex E' h' hR
    cases ex with
    | nm => exact hR.elim
    | rt =>
      obtain ⟨hno, ⟨V, rfl⟩, rfl⟩ := hR
      repeat' (first | refine w_seqR ?_ | refine w_blkR ?_)
      exact w_roundR ⟨hno, ⟨_, rfl⟩, rfl⟩
    | ex z =>
      obtain ⟨rfl, hnd', rfl, a1, a2, a3, a4, a5, rfl⟩ := hR
      repeat' (first | refine w_seqN ?_ | refine w_blkN ?_ | refine w_blkX ?_ | refine w_ops ?_ | ((refine i_nil ?_); refine w_end7 rfl rfl rfl rfl rfl rfl rfl ?_) | ((refine i_cons ?_); first | refine k_mv rfl ?_ | refine k_add rfl rfl (by omega) ?_))
      exact w_roundN ⟨c + 1, U ++ [E0 (x :: [l1, l2, l3, l4])], by omega, hnd', rfl, rfl⟩ (by simp [cntV, Env.get]; omega)
  · have : c = rows.length := by omega
    subst this
    have e := sgW_all (sgR rows)
    rw [sgR_len] at e
    rw [e]
    repeat' (first | refine w_seq ?_ | refine w_seqN ?_ | refine w_seqX ?_ | refine w_exit ?_ | refine w_ops ?_ | ((refine i_cond ?_); refine w_condF rfl ?_) | ((refine i_nil ?_); refine w_end8 rfl rfl rfl rfl rfl rfl rfl rfl ?_) | ((refine i_cons ?_); refine k_lssF rfl rfl (by omega) ?_))
    exact w_roundX ⟨rfl, hnd, ⟨U, rfl⟩, _, _, _, _, rfl⟩
end
end Go.Proofs.YtehnalbdfnmphaaDoor


namespace Go.Proofs.YtehnalbdfnmphaaDoor
open Go.Ab
set_option linter.unusedVariables false
set_option linter.unusedSimpArgs false
set_option maxRecDepth 20000
set_option maxHeartbeats 4000000
attribute [local irreducible] wOps wA wSeq wBlk wRound wRoundI wOpsD

section
variable (T : Heap) (rows : List (Int × List Int)) (l : Int) (U : Heap)
abbrev Oall : List (Int × Int) := dirE (sgR rows) (lbR rows) true (4 * rows.length)
abbrev Iall : List (Int × Int) := dirE (sgR rows) (lbR rows) false (4 * rows.length)
abbrev itB (seen : List Nat) : Blk := .cells (iterB ((R0 :: T).length + 3) (Oall rows).length seen) true zIt
def I22m (E : Env) (h : Heap) : Prop := ∃ (M : List Int) (seen : List Nat), Gd (sgR rows) (lbR rows) (4 * rows.length) M seen ∧
  h = PH T (sgR rows) M rows.length l (Oall rows) (Iall rows) (U ++ [itB T rows seen]) ∧
  E = [(2, some (.sc (.ptr 0 0))), (8, some (.sc (.ptr ((R0 :: T).length + 2) 0))), (10, some (.sc (.mapv ((R0 :: T).length + 4)))), (95, some (.sc (.itv ((R0 :: T).length + (U.length + 5)))))]
/-- Entries that were not seen. -/
def leftI (E : Env) (h : Heap) : Nat := match E.get 95 with
  | some (.sc (.itv id)) => match h[id]? with
    | some (.cells cs _ _) => (Oall rows).length + 2 - cs.length
    | _ => 0
  | _ => 0
def R22m (ex : Ex) (E : Env) (h : Heap) : Prop := match ex with
  | .rt => ¬ MA (sgR rows) (lbR rows) (4 * rows.length) ∧ (∃ V, h = R0 :: V) ∧ E = [(2, some (.sc (.ptr 0 0))), (3, some (.sc (.int .i64 3)))]
  | .ex z => z = 4 ∧ MA (sgR rows) (lbR rows) (4 * rows.length) ∧ (∃ V, h = PH T (sgR rows) (mtL (sgR rows) (lbR rows) (4 * rows.length)) rows.length l (Oall rows) (Iall rows) V) ∧ ∃ a b c,
    E = [(2, some (.sc (.ptr 0 0))), (8, some (.sc (.ptr ((R0 :: T).length + 2) 0))), (10, a), (95, b), (97, c)]
  | .nm => False
theorem leftI_at (M : List Int) (seen : List Nat) : leftI rows [(2, some (.sc (.ptr 0 0))), (8, some (.sc (.ptr ((R0 :: T).length + 2) 0))), (10, some (.sc (.mapv ((R0 :: T).length + 4)))), (95, some (.sc (.itv ((R0 :: T).length + (U.length + 5)))))]
    (PH T (sgR rows) M rows.length l (Oall rows) (Iall rows) (U ++ [itB T rows seen])) = (Oall rows).length - seen.length := by
  have e1 : (PH T (sgR rows) M rows.length l (Oall rows) (Iall rows) (U ++ [itB T rows seen]))[(R0 :: T).length + (U.length + 5)]? = some (itB T rows seen) := by
    rw [get_app]; simp
  have e2 : Env.get [(2, some (.sc (.ptr 0 0))), (8, some (.sc (.ptr ((R0 :: T).length + 2) 0))), (10, some (.sc (.mapv ((R0 :: T).length + 4)))), (95, some (.sc (.itv ((R0 :: T).length + (U.length + 5)))))] 95 = some (.sc (.itv ((R0 :: T).length + (U.length + 5)))) := rfl
  unfold leftI
  rw [e2]
  simp only []
  rw [e1]
  simp only [iterB, seenV, List.length_cons, List.length_map]
  omega
variable [Base]
theorem round22m (hk : HKok Tryd.prog HKp) (hr : Row4 rows) (hn : rows.length ≤ 64) (hnd : ND (sgR rows) (lbR rows) (4 * rows.length)) (n : Nat) (E : Env) (h : Heap) (hI : I22m T rows l U E h) :
    RW Tryd.prog n b22L2 (E.keep [2, 8, 10, 95]) h (wRound (I22m T rows l U) (leftI rows) (leftI rows E h) (R22m T rows l)) := by
  obtain ⟨M, seen, hG, rfl, rfl⟩ := hI
  have hsg := sgR_sgn hr
  have hsl := sgR_len rows
  rw [leftI_at]
  refine RW.seq ?_
  refine RW.nextII (h0 := R0 :: T) (it := U.length + 5) (m := 3) (es := Oall rows) (seen := seen) ft_ok hk rfl (by simp) rfl ?_ ?_
  · intro hall
    obtain ⟨hMA, hM⟩ := Gd.all (S := sgR rows) (Lb := lbR rows) hsg (by rw [hsl]; exact hnd) (by rw [hsl]; exact hG) (by rw [hsl]; exact hall)
    rw [hsl] at hMA hM
    repeat' (first | refine w_seqN ?_ | ((refine i_nil ?_); refine w_end5 rfl rfl rfl rfl rfl ?_) | ((refine i_cons ?_); refine k_ok rfl rfl ?_))
    refine RW.det ft_ok hk ?_
    repeat' (first | refine w_seq ?_ | refine w_seqX ?_ | refine w_exit ?_ | ((refine i_cond ?_); refine w_condF rfl ?_))
    exact w_roundX ⟨rfl, hMA, ⟨_, by rw [hM]⟩, _, _, _, rfl⟩
  · intro i p hp hns
    have hil := (List.getElem?_eq_some_iff.1 hp).1
    have hset : ∀ (a b c d e : Blk) (x y : Blk), (a :: b :: c :: d :: e :: (U ++ [x])).set (U.length + 5) y = a :: b :: c :: d :: e :: (U ++ [y]) := fun a b c d e x y => by simp
    rw [hset]
    have hit : ∀ (a b c d e : Blk), (a :: b :: c :: d :: e :: (U ++ [itB T rows (seen ++ [i])]))[U.length + 5]? = some (itB T rows (seen ++ [i])) := fun a b c d e => by simp
    have hlt := hG.lt hil hns
    repeat' (first | refine w_seqN ?_ | ((refine i_nil ?_); refine w_end5 rfl rfl rfl rfl rfl ?_) | ((refine i_cons ?_); refine k_ok rfl rfl ?_))
    refine RW.det ft_ok hk ?_
    cases hv : getI (Iall rows) p.1 with
    | none =>
      have hbad := Gd.bad hp hv
      repeat' (first | refine w_seq ?_ | refine w_seqN ?_ | refine w_seqR ?_ | refine w_blk ?_ | refine w_blkR ?_ | refine w_skip ?_ | refine w_ret ?_ | refine w_ops ?_ | ((refine i_cond ?_); refine w_condT rfl ?_) | ((refine i_nil ?_); first | refine w_end2 rfl rfl ?_ | refine w_end6 rfl rfl rfl rfl rfl rfl ?_ | refine w_end7 rfl rfl rfl rfl rfl rfl rfl ?_) | ((refine i_cons ?_); first | refine k_mpT rfl (hit _ _ _ _ _) rfl rfl hp ?_ | refine k_mpL rfl rfl rfl hv ?_ | refine k_st0 rfl rfl ?_ | refine k_mv rfl ?_ | refine k_notF rfl ?_ | refine k_ok rfl rfl ?_))
      exact w_roundR ⟨hbad, ⟨_, rfl⟩, rfl⟩
    | some v =>
      obtain ⟨h, g, e1, e2, h1, g1, hG'⟩ := hG.step hnd hp hns hv
      have hml := hG.1
      have hw1 : ∀ {x : Int} {j : Int}, j = (h : Nat) → ∀ (a c d e : Blk) (V : Heap), writeN (a :: EX M :: c :: d :: e :: V) 1 (0 + j.toNat * 1) [.int .i64 x] = some (a :: EX (M.set h x) :: c :: d :: e :: V) := fun {x j} hj a c d e V => wrL (k := 1) (i := h) (L := a :: EX M :: c :: d :: e :: V) rfl (by omega) hj
      have hw2 : ∀ {x y : Int} {j : Int}, j = (g : Nat) → ∀ (a c d e : Blk) (V : Heap), writeN (a :: EX (M.set h y) :: c :: d :: e :: V) 1 (0 + j.toNat * 1) [.int .i64 x] = some (a :: EX ((M.set h y).set g x) :: c :: d :: e :: V) := fun {x y j} hj a c d e V => wrL (k := 1) (i := g) (L := a :: EX (M.set h y) :: c :: d :: e :: V) rfl (by rw [List.length_set]; omega) hj
      obtain ⟨p1, p2⟩ := p
      simp only at e1 hv
      subst e1 e2
      repeat' (first | refine w_seq ?_ | refine w_seqN ?_ | refine w_blk ?_ | refine w_blkN ?_ | refine w_skip ?_ | refine w_ops ?_ | ((refine i_cond ?_); first | refine w_condT rfl ?_ | refine w_condF rfl ?_) | ((refine i_nil ?_); first | refine w_end4 rfl rfl rfl rfl ?_ | refine w_end6 rfl rfl rfl rfl rfl rfl ?_ | refine w_end7 rfl rfl rfl rfl rfl rfl rfl ?_) | ((refine i_cons ?_); first | refine k_mpT rfl (hit _ _ _ _ _) rfl rfl hp ?_ | refine k_mpL rfl rfl rfl hv ?_ | refine k_fldA rfl ?_ | refine k_ldL rfl rfl ?_ | refine k_idxA (j := (g : Int)) rfl rfl (by omega) ?_ | refine k_idxA (j := (h : Int)) rfl rfl (by omega) ?_ | refine k_stL rfl rfl rfl rfl (hw1 (by omega) _ _ _ _ _) ?_ | refine k_stL rfl rfl rfl rfl (hw2 (by omega) _ _ _ _ _) ?_ | refine k_mv rfl ?_ | refine k_notT rfl ?_ | refine k_ok rfl rfl ?_))
      refine w_roundN ⟨_, seen ++ [i], hG', rfl, rfl⟩ ?_
      have := leftI_at T rows l U ((M.set h (g : Int)).set g (h : Int)) (seen ++ [i])
      have e3 : (seen ++ [i]).length = seen.length + 1 := by simp
      rw [e3] at this
      exact Nat.lt_of_le_of_lt (Nat.le_of_eq this) (Nat.sub_lt_sub_left hlt (Nat.lt_succ_self _))
end
end Go.Proofs.YtehnalbdfnmphaaDoor

