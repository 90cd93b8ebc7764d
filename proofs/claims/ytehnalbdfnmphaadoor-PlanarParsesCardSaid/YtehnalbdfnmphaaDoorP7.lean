/- planar.Parse: whatever order the map is run through in. -/
import Derived.Test.YtehnalbdfnmphaaDoorP6
namespace Go.Proofs.YtehnalbdfnmphaaDoor
open Go.Ab
set_option linter.unusedVariables false
set_option linter.unusedSimpArgs false
theorem wRound_mono {I : Env → Heap → Prop} {μ : Env → Heap → Nat} {k : Nat} {R R' : Ex → Env → Heap → Prop} (h : ∀ ex E h, R ex E h → R' ex E h) : ∀ ex E h, wRound I μ k R ex E h → wRound I μ k R' ex E h := fun ex E hp => by
  cases ex with
  | nm => exact id
  | ex i => exact h _ _ _
  | rt => exact h _ _ _
set_option maxRecDepth 20000
set_option maxHeartbeats 4000000
attribute [local irreducible] wOps wA wSeq wBlk wRound wRoundI wOpsD

/-- What Parse answers, somewhere in memory. -/
def ParQ (r : DR) (v : AV) (h : Heap) : Prop := match r with
  | .err e => v = .tup [.agg [.nilS, .nilS, .int .i64 0], .sc (.int .i64 (e : Nat))]
  | .ok xs ms l => ∃ k1 k2 : Nat, k1 ≠ k2 ∧ v = .tup [.agg [.slc k1 0 xs.length (some xs.length), .slc k2 0 ms.length (some ms.length), .int .i64 (l : Nat)], .sc (.int .i64 0)] ∧ h[k1]? = some (EX xs) ∧ h[k2]? = some (EX ms)
def ParE (r : DR) (ex : Ex) (E : Env) (h : Heap) : Prop := (ex = .nm ∨ ex = .rt) ∧ ∃ v, resultsA a22.res E h = some v ∧ ParQ r v h
theorem parE_err {e : Nat} {V : Heap} : ParE (.err e) .rt [(2, some (.sc (.ptr 0 0))), (3, some (.sc (.int .i64 (e : Nat))))] (R0 :: V) :=
  ⟨.inr rfl, _, rfl, rfl⟩
section
variable {s : List UInt8} {rows : List (Int × List Int)} {l : Int} (h65 : ¬ 65536 < s.length) (hl : linL (spl 10 s) [] = some (rows, l)) (hb : ¬ (64 < rows.length ∨ 64 < l))
include h65 hl hb
theorem parR_no (hM : ¬ MA (sgR rows) (lbR rows) (4 * rows.length)) : parR s = .err 3 := by
  unfold parR; rw [if_neg h65, hl]; simp only []; rw [if_neg hb, if_neg hM]
theorem parR_bad (hM : MA (sgR rows) (lbR rows) (4 * rows.length)) (hV : ¬ PV (sgR rows) (mtL (sgR rows) (lbR rows) (4 * rows.length)) l) : parR s = .err 7 := by
  unfold parR; rw [if_neg h65, hl]; simp only []; rw [if_neg hb, if_pos hM, if_neg hV]
theorem parR_ok (hM : MA (sgR rows) (lbR rows) (4 * rows.length)) (hV : PV (sgR rows) (mtL (sgR rows) (lbR rows) (4 * rows.length)) l) : parR s = .ok (sgR rows) (mtL (sgR rows) (lbR rows) (4 * rows.length)) l.toNat := by
  unfold parR; rw [if_neg h65, hl]; simp only []; rw [if_neg hb, if_pos hM, if_pos hV]
end
section
variable [Base]
theorem parse_rw (hk : HKok Tryd.prog HKp) (s : List UInt8) (n : Nat) : RW Tryd.prog n a22.body (params 0 [.sc (tb s)]) [] (ParE (parR s)) := by
  show RW Tryd.prog n b22 _ _ _
  by_cases h65 : 65536 < s.length
  · have hp : parR s = .err 5 := by unfold parR; rw [if_pos h65]
    rw [hp]
    refine RW.det ft_ok hk ?_
    repeat' (first | refine w_seq ?_ | refine w_seqN ?_ | refine w_seqR ?_ | refine w_ret ?_ | refine w_ops ?_ | ((refine i_cond ?_); refine w_condT rfl ?_) | ((refine i_nil ?_); first | refine w_end2 rfl rfl ?_ | refine w_end3 rfl rfl rfl ?_) | ((refine i_cons ?_); first | refine k_new0 ?_ | refine k_slen rfl ?_ | refine k_st0 rfl rfl ?_ | refine k_mv rfl ?_ | refine k_gtrT rfl rfl (by omega) ?_ | refine k_ok rfl rfl ?_))
    exact parE_err
  have k45 := call45 [R0] s (by omega)
  refine RW.seq (RW.det ft_ok hk ?_)
  repeat' (first | refine w_seqN ?_ | refine w_ops ?_ | ((refine i_nil ?_); refine w_end2 rfl rfl ?_) | ((refine i_cons ?_); first | refine k_new0 ?_ | refine k_mv rfl ?_))
  refine RW.seq (RW.det ft_ok hk ?_)
  repeat' (first | refine w_seq ?_ | refine w_seqN ?_ | refine w_skip ?_ | refine w_ops ?_ | ((refine i_cond ?_); refine w_condF rfl ?_) | ((refine i_nil ?_); refine w_end3 rfl rfl rfl ?_) | ((refine i_cons ?_); first | refine k_slen rfl ?_ | refine k_mv rfl ?_ | refine k_gtrF rfl rfl (by omega) ?_))
  refine RW.seq (RW.det ft_ok hk ?_)
  repeat' (first | refine w_seqN ?_ | refine w_ops ?_ | ((refine i_nil ?_); refine w_end4 rfl rfl rfl rfl ?_) | ((refine i_cons ?_); first | (refine k_call rfl k45 ?_; rintro v h3 ⟨⟨T, rfl⟩, u, l, b, rfl, hV⟩) | refine k_mv rfl ?_ | refine k_ok rfl rfl ?_))
  unfold LinV at hV
  cases hl : linL (spl 10 s) [] with
  | none =>
    rw [hl] at hV
    obtain rfl : b = false := hV
    have hp : parR s = .err 3 := by unfold parR; rw [if_neg h65, hl]
    rw [hp]
    refine RW.det ft_ok hk ?_
    repeat' (first | refine w_seq ?_ | refine w_seqN ?_ | refine w_seqR ?_ | refine w_ret ?_ | refine w_ops ?_ | ((refine i_cond ?_); refine w_condT rfl ?_) | ((refine i_nil ?_); first | refine w_end2 rfl rfl ?_ | refine w_end4 rfl rfl rfl rfl ?_) | ((refine i_cons ?_); first | refine k_st0 rfl rfl ?_ | refine k_mv rfl ?_ | refine k_notF rfl ?_ | refine k_ok rfl rfl ?_))
    exact parE_err
  | some q =>
    obtain ⟨rows, m⟩ := q
    rw [hl] at hV
    obtain ⟨rfl, rfl, hu⟩ := hV
    obtain ⟨hr, l0, l9⟩ := linL_rows _ _ _ _ Row4.nil hl
    have hul := hu.len
    refine RW.seq (RW.det ft_ok hk ?_)
    repeat' (first | refine w_seq ?_ | refine w_seqN ?_ | refine w_skip ?_ | refine w_ops ?_ | ((refine i_cond ?_); refine w_condF rfl ?_) | ((refine i_nil ?_); refine w_end4 rfl rfl rfl rfl ?_) | ((refine i_cons ?_); first | refine k_mv rfl ?_ | refine k_notT rfl ?_))
    refine RW.seq (RW.det ft_ok hk ?_)
    repeat' (first | refine w_seqN ?_ | refine w_ops ?_ | ((refine i_nil ?_); refine w_end4 rfl rfl rfl rfl ?_) | ((refine i_cons ?_); first | refine k_len rfl hul ?_ | refine k_mv rfl ?_))
    by_cases hb : 64 < rows.length ∨ 64 < l
    · have hp : parR s = .err 5 := by unfold parR; rw [if_neg h65, hl]; simp only []; rw [if_pos hb]
      rw [hp]
      refine RW.det ft_ok hk ?_
      by_cases hb1 : 64 < rows.length
      · repeat' (first | refine w_seq ?_ | refine w_seqN ?_ | refine w_seqR ?_ | refine w_ret ?_ | refine w_ops ?_ | ((refine i_cond ?_); refine w_condT rfl ?_) | ((refine i_nil ?_); first | refine w_end2 rfl rfl ?_ | refine w_end5 rfl rfl rfl rfl rfl ?_) | ((refine i_cons ?_); first | refine k_st0 rfl rfl ?_ | refine k_skip rfl ?_ | refine k_mv rfl ?_ | refine k_pickT rfl rfl ?_ | refine k_gtrT rfl rfl (by omega) ?_ | refine k_ok rfl rfl ?_))
        exact parE_err
      · have hb2 : 64 < l := by omega
        repeat' (first | refine w_seq ?_ | refine w_seqN ?_ | refine w_seqR ?_ | refine w_ret ?_ | refine w_ops ?_ | ((refine i_cond ?_); refine w_condT rfl ?_) | ((refine i_nil ?_); first | refine w_end2 rfl rfl ?_ | refine w_end5 rfl rfl rfl rfl rfl ?_) | ((refine i_cons ?_); first | refine k_st0 rfl rfl ?_ | refine k_want rfl ?_ | refine k_mv rfl ?_ | refine k_pickF rfl rfl ?_ | refine k_gtrT rfl rfl (by omega) ?_ | refine k_gtrF rfl rfl (by omega) ?_ | refine k_ok rfl rfl ?_))
        exact parE_err
    have hn : rows.length ≤ 64 := by omega
    have hl64 : l ≤ 64 := by omega
    refine RW.seq (RW.det ft_ok hk ?_)
    repeat' (first | refine w_seq ?_ | refine w_seqN ?_ | refine w_skip ?_ | refine w_ops ?_ | ((refine i_cond ?_); refine w_condF rfl ?_) | ((refine i_nil ?_); refine w_end5 rfl rfl rfl rfl rfl ?_) | ((refine i_cons ?_); first | refine k_want rfl ?_ | refine k_mv rfl ?_ | refine k_pickF rfl rfl ?_ | refine k_gtrF rfl rfl (by omega) ?_))
    have eH : [R0] ++ T = (R0 :: T) ++ [] := by simp
    have hu' : Own5 [] (R0 :: T) u rows.length (cells5 rows) := by
      rcases hu with h | ⟨id, a, -, b, c, d⟩
      · exact .inl h
      · exact .inr ⟨id, a, by simp, b, c, d⟩
    rw [eH]
    have eN : (4 : Int) * (rows.length : Int) = ((4 * rows.length : Nat) : Int) := by omega
    refine RW.seq (RW.det ft_ok hk ?_)
    repeat' (first | refine w_seqN ?_ | refine w_opsD ?_ | refine d_one ?_ | refine d_nil ?_ | ((refine i_nil ?_); first | refine d_same ?_ | refine d_ord ?_ | refine d_ext (extA _ _ _) ?_ | refine w_end3 rfl rfl rfl ?_) | ((refine i_cons ?_); first | (refine k_mkL (n := rows.length) rfl rfl (by simp only [bigN]; omega) ?_) | (refine k_mul rfl rfl (by omega) ?_; rw [eN]) | (refine k_mkL (n := 4 * rows.length) rfl rfl (by simp only [bigN]; omega) ?_) | refine k_newL ?_ | refine k_stL rfl rfl rfl rfl rfl ?_ | refine k_mv rfl ?_ | refine k_ok rfl rfl ?_))
    refine RW.seq (RW.det ft_ok hk ?_)
    repeat' (first | refine w_seqN ?_ | refine w_ops ?_ | ((refine i_nil ?_); refine w_end4 rfl rfl rfl rfl ?_) | ((refine i_cons ?_); first | refine k_mpM ?_ | refine k_mv rfl ?_))
    refine RW.seq (RW.det ft_ok hk ?_)
    repeat' (first | refine w_seqN ?_ | refine w_ops ?_ | ((refine i_nil ?_); refine w_end5 rfl rfl rfl rfl rfl ?_) | ((refine i_cons ?_); first | refine k_mpM ?_ | refine k_mv rfl ?_))
    refine RW.seq (RW.det ft_ok hk ?_)
    repeat' (first | refine w_seq ?_ | refine w_seqN ?_ | refine w_blk ?_ | refine w_ops ?_ | ((refine i_nil ?_); refine w_end7 rfl rfl rfl rfl rfl rfl rfl ?_) | ((refine i_cons ?_); first | refine k_len rfl hul ?_ | refine k_mv rfl ?_))
    have x1 : sgW (sgR rows) 0 = List.replicate rows.length 0 := by simp [sgW, sgR_len]
    have x4 : ∀ k, EX (List.replicate k 0) = .cells (List.replicate k (.int .i64 0)) true 1 := fun k => by simp [EX]
    refine w_loop (I22c T rows l u) (cntV rows.length 55) (R22c T rows l) ⟨0, [], by omega, ND.zero _ _, by rw [x1, PH, x4, x4]; rfl, rfl⟩ (fun E h hI => round22c T rows l u hr hn hu' E h hI) ?_
    rintro ex E' h' hR
    cases ex with
    | nm => exact hR.elim
    | rt =>
      obtain ⟨hno, ⟨V, rfl⟩, rfl⟩ := hR
      rw [parR_no h65 hl hb (fun hM => hno hM.1)]
      repeat' (first | refine w_seqR ?_ | refine w_blkR ?_)
      exact parE_err
    | ex z =>
      obtain ⟨rfl, hnd, ⟨U, rfl⟩, a1, a2, a3, a4, rfl⟩ := hR
      repeat' (first | refine w_seqN ?_ | refine w_blkX ?_)
      refine RW.seq (RW.seq (RW.det ft_ok hk ?_))
      repeat' (first | refine w_seqN ?_ | refine w_ops ?_ | ((refine i_nil ?_); refine w_end4 rfl rfl rfl rfl ?_) | ((refine i_cons ?_); first | refine k_mpR rfl rfl ?_ | refine k_mv rfl ?_))
      refine RW.block (RW.loop (I22m T rows l U) (leftI rows) (fun E h hI => RW.mono (round22m T rows l U hk hr hn hnd n E h hI) (wRound_mono ?_)) ⟨_, [], Gd.zero _ _ _, rfl, rfl⟩)
      intro ex E' h' hR
      cases ex with
      | nm => exact hR.elim
      | rt =>
        obtain ⟨hno, ⟨V, rfl⟩, rfl⟩ := hR
        rw [parR_no h65 hl hb hno]
        repeat' (first | refine w_seqR ?_ | refine w_blkR ?_)
        exact parE_err
      | ex z =>
        obtain ⟨rfl, hMA, ⟨V, rfl⟩, a, b, c, rfl⟩ := hR
        have hml : (mtL (sgR rows) (lbR rows) (4 * rows.length)).length = 4 * rows.length := mtL_len _ _ _
        have hsl := sgR_len rows
        have i1 : IsInts (PH T (sgR rows) (mtL (sgR rows) (lbR rows) (4 * rows.length)) rows.length l (Oall rows) (Iall rows) V) (.slc ((R0 :: T).length + 0) 0 rows.length (some rows.length)) (sgR rows) := exL (k := 0) rfl hsl
        have i2 : IsInts (PH T (sgR rows) (mtL (sgR rows) (lbR rows) (4 * rows.length)) rows.length l (Oall rows) (Iall rows) V) (.slc ((R0 :: T).length + 1) 0 (4 * rows.length) (some (4 * rows.length))) (mtL (sgR rows) (lbR rows) (4 * rows.length)) := exL (k := 1) rfl hml
        have k1 := call20 (HK := HKp) rfl rfl rfl rfl rfl (PH T (sgR rows) (mtL (sgR rows) (lbR rows) (4 * rows.length)) rows.length l (Oall rows) (Iall rows) V) _ _ l (sgR rows) (mtL (sgR rows) (lbR rows) (4 * rows.length)) i1 i2
        by_cases hV : PV (sgR rows) (mtL (sgR rows) (lbR rows) (4 * rows.length)) l
        · rw [parR_ok h65 hl hb hMA hV]
          repeat' (first | refine w_seqN ?_ | refine w_blkX ?_)
          refine RW.det ft_ok hk ?_
          repeat' (first | refine w_seq ?_ | refine w_seqN ?_ | refine w_skip ?_ | refine w_ret ?_ | refine w_ops ?_ | ((refine i_cond ?_); refine w_condF rfl ?_) | ((refine i_nil ?_); first | refine w_end2 rfl rfl ?_ | refine w_end3 rfl rfl rfl ?_) | ((refine i_cons ?_); first | refine k_ldAL (vs := [.slc ((R0 :: T).length + 0) 0 rows.length (some rows.length), .slc ((R0 :: T).length + 1) 0 (4 * rows.length) (some (4 * rows.length)), .int .i64 l]) rfl rfl ?_ | (refine k_call rfl k1 ?_; rintro v h3 ⟨⟨T2, rfl⟩, r, rfl, hr2⟩; obtain rfl := hr2.2 hV; rw [List.append_assoc]) | refine k_st0 rfl rfl ?_ | refine k_mv rfl ?_ | refine k_notT rfl ?_))
          refine ⟨.inr rfl, _, rfl, (R0 :: T).length + 0, (R0 :: T).length + 1, by omega, ?_, (get_app (_ :: T) _ 0).trans rfl, (get_app (_ :: T) _ 1).trans rfl⟩
          rw [hml, hsl, Int.toNat_of_nonneg l0]
          rfl
        · rw [parR_bad h65 hl hb hMA hV]
          have k2 : ∃ v h', Cal FT HKp 20 [.agg [.slc ((R0 :: T).length + 0) 0 rows.length (some rows.length), .slc ((R0 :: T).length + 1) 0 (4 * rows.length) (some (4 * rows.length)), .int .i64 l]] (PH T (sgR rows) (mtL (sgR rows) (lbR rows) (4 * rows.length)) rows.length l (Oall rows) (Iall rows) V) v h' ∧ Ext (PH T (sgR rows) (mtL (sgR rows) (lbR rows) (4 * rows.length)) rows.length l (Oall rows) (Iall rows) V) h' ∧ v = .sc (.bool false) := by
            obtain ⟨v, h', a, b, c, rfl, d⟩ := k1
            cases c with
            | false => exact ⟨_, h', a, b, rfl⟩
            | true => exact absurd (d.1 rfl) hV
          repeat' (first | refine w_seqN ?_ | refine w_blkX ?_)
          refine RW.det ft_ok hk ?_
          repeat' (first | refine w_seq ?_ | refine w_seqN ?_ | refine w_seqR ?_ | refine w_ret ?_ | refine w_ops ?_ | ((refine i_cond ?_); refine w_condT rfl ?_) | ((refine i_nil ?_); first | refine w_end2 rfl rfl ?_ | refine w_end3 rfl rfl rfl ?_) | ((refine i_cons ?_); first | refine k_ldAL (vs := [.slc ((R0 :: T).length + 0) 0 rows.length (some rows.length), .slc ((R0 :: T).length + 1) 0 (4 * rows.length) (some (4 * rows.length)), .int .i64 l]) rfl rfl ?_ | (refine k_call rfl k2 ?_; rintro v h3 ⟨⟨T2, rfl⟩, rfl⟩; rw [List.append_assoc]) | refine k_st0 rfl rfl ?_ | refine k_mv rfl ?_ | refine k_notF rfl ?_ | refine k_ok rfl rfl ?_))
          exact parE_err
end
end Go.Proofs.YtehnalbdfnmphaaDoor
