/- planar.Parse: the loop over the rows, and the loop over the map. -/
import Derived.Test.YtehnalbdfnmphaaDoorP4
namespace Go.Proofs.YtehnalbdfnmphaaDoor
open Go.Ab
set_option linter.unusedVariables false
set_option linter.unusedSimpArgs false
set_option maxRecDepth 20000
set_option maxHeartbeats 4000000
attribute [local irreducible] wOps wA wSeq wBlk wRound wRoundI wOpsD

section
variable (T : Heap) (rows : List (Int × List Int)) (l : Int) (u : SV)
def I22c (E : Env) (h : Heap) : Prop := ∃ (c : Nat) (U : Heap), c ≤ rows.length ∧ ND (sgR rows) (lbR rows) (4 * c) ∧
  h = PH T (sgW (sgR rows) c) (List.replicate (4 * rows.length) 0) rows.length l (dirE (sgR rows) (lbR rows) true (4 * c)) (dirE (sgR rows) (lbR rows) false (4 * c)) U ∧
  E = [(2, some (.sc (.ptr 0 0))), (8, some (.sc (.ptr ((R0 :: T).length + 2) 0))), (9, some (.sc (.mapv ((R0 :: T).length + 3)))), (10, some (.sc (.mapv ((R0 :: T).length + 4)))),
    (53, some (.sc u)), (54, some (.sc (.int .i64 (rows.length : Nat)))), (55, some (.sc (.int .i64 (c : Nat))))]
def R22c (ex : Ex) (E : Env) (h : Heap) : Prop := match ex with
  | .rt => ¬ ND (sgR rows) (lbR rows) (4 * rows.length) ∧ (∃ V, h = R0 :: V) ∧ E = [(2, some (.sc (.ptr 0 0))), (3, some (.sc (.int .i64 3)))]
  | .ex z => z = 0 ∧ ND (sgR rows) (lbR rows) (4 * rows.length) ∧ (∃ U,
    h = PH T (sgR rows) (List.replicate (4 * rows.length) 0) rows.length l (dirE (sgR rows) (lbR rows) true (4 * rows.length)) (dirE (sgR rows) (lbR rows) false (4 * rows.length)) U) ∧ ∃ a1 a2 a3 a4,
    E = [(2, some (.sc (.ptr 0 0))), (8, some (.sc (.ptr ((R0 :: T).length + 2) 0))), (9, some (.sc (.mapv ((R0 :: T).length + 3)))), (10, some (.sc (.mapv ((R0 :: T).length + 4)))),
      (53, a1), (54, a2), (55, a3), (56, a4)]
  | .nm => False
theorem round22c (hr : Row4 rows) (hn : rows.length ≤ 64) (hu : Own5 [] (R0 :: T) u rows.length (cells5 rows)) (E : Env) (h : Heap) (hI : I22c T rows l u E h) :
    wA FT HKp b22L0 (E.keep [2, 8, 9, 10, 53, 54, 55]) h (wRound (I22c T rows l u) (cntV rows.length 55) (cntV rows.length 55 E h) (R22c T rows l)) := by
  obtain ⟨c, U, hc, hnd, rfl, rfl⟩ := hI
  by_cases hlt : c < rows.length
  · obtain ⟨p, hp⟩ : ∃ p, rows[c]? = some p := ⟨_, List.getElem?_eq_getElem hlt⟩
    obtain ⟨x, ls⟩ := p
    have hl4 := (hr (x, ls) (List.mem_of_getElem? hp)).2.1
    obtain ⟨l1, l2, l3, l4, rfl⟩ : ∃ a b c d, ls = [a, b, c, d] := by
      match ls, hl4 with
      | [a, b, c, d], _ => exact ⟨a, b, c, d, rfl⟩
    have hsx := sgR_at hp
    have hset := sgW_set hsx
    have hSl : (sgW (sgR rows) c).length = rows.length := by rw [sgW_len (by rw [sgR_len]; omega), sgR_len]
    generalize hSw : sgW (sgR rows) c = Sw at hset hSl ⊢
    generalize hZ : List.replicate (4 * rows.length) (0 : Int) = Z
    obtain ⟨id, rfl, -, hid, -, -⟩ : ∃ id, u = .slc id 0 rows.length none ∧ ([] : Heap).length ≤ id ∧ (R0 :: T)[id]? = some (.cells (cells5 rows) true 5) ∧ (cells5 rows).length = rows.length * 5 ∧ 0 < rows.length := by
      rcases hu with ⟨-, h0, -⟩ | h
      · omega
      · exact h
    have hrr : ∀ (L : Heap) {j : Int}, j = (c : Nat) → readN ((R0 :: T) ++ L) id (0 + j.toNat * 5) 5 = some [.int .i64 x, .int .i64 l1, .int .i64 l2, .int .i64 l3, .int .i64 l4] := fun L j hj => by
      subst hj
      rw [Int.toNat_natCast]
      have hil := (List.getElem?_eq_some_iff.1 hid).1
      simp only [readN, List.getElem?_append_left hil, hid]
      rw [Nat.zero_add]
      exact cells5_at hr hp
    have hg : ∀ (a b c d e : Blk) (z : Blk), (a :: b :: c :: d :: e :: (U ++ [z]))[U.length + 5]? = some z := fun a b c d e z => by simp
    have hw5 : ∀ (a b c d e : Blk), writeN (a :: b :: c :: d :: e :: (U ++ [.cells [.int .i64 0, .int .i64 0, .int .i64 0, .int .i64 0, .int .i64 0] true 0])) (U.length + 5) 0 [.int .i64 x, .int .i64 l1, .int .i64 l2, .int .i64 l3, .int .i64 l4] = some (a :: b :: c :: d :: e :: (U ++ [E0 (x :: [l1, l2, l3, l4])])) := fun a b c d e => by
      simp only [writeN, hg]
      rw [if_pos (by simp)]
      simp [splice]
    have hrx : ∀ (a b c d e : Blk), readN (a :: b :: c :: d :: e :: (U ++ [E0 (x :: [l1, l2, l3, l4])])) (U.length + 5) (0 + 0) 1 = some [.int .i64 x] := fun a b c d e => by
      simp only [readN, hg]; rfl
    have hr4 : ∀ (a b c d e : Blk), readN (a :: b :: c :: d :: e :: (U ++ [E0 (x :: [l1, l2, l3, l4])])) (U.length + 5) (0 + 1) 4 = some ([l1, l2, l3, l4].map (.int .i64)) := fun a b c d e => by
      simp only [readN, hg]; rfl
    repeat' (first | refine w_seq ?_ | refine w_seqN ?_ | refine w_blk ?_ | refine w_skip ?_ | refine w_ops ?_ | ((refine i_cond ?_); refine w_condT rfl ?_) | ((refine i_nil ?_); first | refine w_end8 rfl rfl rfl rfl rfl rfl rfl rfl ?_ | refine w_end9 rfl rfl rfl rfl rfl rfl rfl rfl rfl ?_ | refine w_end11 rfl rfl rfl rfl rfl rfl rfl rfl rfl rfl rfl ?_) | ((refine i_cons ?_); first | refine k_idxA rfl rfl (by omega) ?_ | refine op_ldA rfl rfl (hrr _ (by omega)) ?_ | refine k_newL ?_ | refine k_stL rfl rfl rfl rfl (hw5 _ _ _ _ _) ?_ | refine k_fldA rfl ?_ | refine k_ldL rfl rfl ?_ | refine k_ldL rfl (hrx _ _ _ _ _) ?_ | refine k_stL rfl rfl rfl rfl (wrL (k := 0) (i := c) rfl (by omega) (by omega)) ?_ | refine k_ldAL rfl (hr4 _ _ _ _ _) ?_ | refine k_mv rfl ?_ | refine k_lssT rfl rfl (by omega) ?_))
    refine w_loop (I22s T rows l (.slc id 0 rows.length none) c x [l1, l2, l3, l4] U) (cntV 4 68) (R22s T rows l (.slc id 0 rows.length none) c x [l1, l2, l3, l4] U) ⟨0, by omega, hnd, by rw [← hset, hZ]; rfl, rfl⟩ (round22s T rows l (.slc id 0 rows.length none) hr hn c x [l1, l2, l3, l4] hp U) ?_
    rintro ex E' h' hR
    cases ex with
    | nm => exact hR.elim
    | rt =>
      obtain ⟨hno, ⟨V, rfl⟩, rfl⟩ := hR
      repeat' (first | refine w_seqR ?_ | refine w_blkR ?_)
      exact w_roundR ⟨hno, ⟨_, rfl⟩, rfl⟩
    | ex z =>
      obtain ⟨rfl, hnd', rfl, a1, a2, a3, a4, a5, rfl⟩ := hR
      repeat' (first | refine w_seqN ?_ | refine w_blkN ?_ | refine w_blkX ?_ | refine w_ops ?_ | ((refine i_nil ?_); refine w_end7 rfl rfl rfl rfl rfl rfl rfl ?_) | ((refine i_cons ?_); first | refine k_mv rfl ?_ | refine k_add rfl rfl (by omega) ?_))
      exact w_roundN ⟨c + 1, U ++ [E0 (x :: [l1, l2, l3, l4])], by omega, hnd', rfl, rfl⟩ (by simp [cntV, Env.get]; omega)
  · have : c = rows.length := by omega
    subst this
    have e := sgW_all (sgR rows)
    rw [sgR_len] at e
    rw [e]
    repeat' (first | refine w_seq ?_ | refine w_seqN ?_ | refine w_seqX ?_ | refine w_exit ?_ | refine w_ops ?_ | ((refine i_cond ?_); refine w_condF rfl ?_) | ((refine i_nil ?_); refine w_end8 rfl rfl rfl rfl rfl rfl rfl rfl ?_) | ((refine i_cons ?_); refine k_lssF rfl rfl (by omega) ?_))
    exact w_roundX ⟨rfl, hnd, ⟨U, rfl⟩, _, _, _, _, rfl⟩
end
end Go.Proofs.YtehnalbdfnmphaaDoor
