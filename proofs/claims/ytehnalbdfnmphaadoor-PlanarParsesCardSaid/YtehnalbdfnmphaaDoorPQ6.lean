/- The reference's Parse: its contract. -/
import Derived.Test.YtehnalbdfnmphaaDoorPQ5
import Derived.Test.YtehnalbdfnmphaaDoorP7
import Derived.Test.YtehnalbdfnmphaaDoorD5
namespace Go.Proofs.YtehnalbdfnmphaaDoor
open Go.Ab
set_option linter.unusedVariables false
set_option linter.unusedSimpArgs false
set_option maxRecDepth 20000
set_option maxHeartbeats 4000000
attribute [local irreducible] wOps wA wSeq wBlk wRound wRoundI wOpsD

theorem lin_rr (s : List UInt8) : linL (spl 10 s) [] = linR (spl 10 s) := by
  rw [lin_same]
  cases linR (spl 10 s) <;> simp
theorem parR_full {s : List UInt8} (h : 65536 < s.length) : parR s = .err 5 := by unfold parR; rw [if_pos h]
theorem parR_form {s : List UInt8} (h : ¬ 65536 < s.length) (hl : linR (spl 10 s) = none) : parR s = .err 3 := by
  unfold parR; rw [if_neg h, lin_rr, hl]
theorem parR_many {s : List UInt8} (h : ¬ 65536 < s.length) {rows : List (Int × List Int)} {l : Int} (hl : linR (spl 10 s) = some (rows, l)) (hb : 64 < rows.length ∨ 64 < l) : parR s = .err 5 := by
  unfold parR; rw [if_neg h, lin_rr, hl]; simp only []; rw [if_pos hb]

theorem spl_cnt (c : UInt8) : ∀ s : List UInt8, (spl c s).length ≤ s.length + 1
  | [] => by simp [spl]
  | x :: r => by
    have ih := spl_cnt c r
    unfold spl
    split
    · simp; omega
    · cases hr : spl c r with
      | nil => exact absurd hr (spl_ne _ _)
      | cons a t => rw [hr] at ih; simp at ih ⊢; omega
/-- What the reference's lines come to. -/
theorem linR_few {ls : List (List UInt8)} (h : ls.length < 2) : linR ls = none := by unfold linR; rw [if_pos (.inl h)]
theorem linR_end {ls : List (List UInt8)} {w : List UInt8} (hw : ls[ls.length - 1]? = some w) (h : w ≠ []) : linR ls = none := by
  unfold linR
  rw [if_pos (.inr (by rw [List.getLast?_eq_getElem?, hw]; simpa using h))]
theorem linR_go {ls : List (List UInt8)} {w last : List UInt8} (h2 : ¬ ls.length < 2) (hw : ls[ls.length - 1]? = some w) (h : w = []) (hl : ls[ls.length - 2]? = some last) :
    linR ls = if last.length < 7 ∨ last.take 6 ≠ loopsW ∨ numB (last.drop 6) 3 < 0 then none else
      match crsAll (ls.take (ls.length - 2)) with
      | some ps => some (ps, numB (last.drop 6) 3)
      | none => none := by
  unfold linR
  rw [if_neg (by rw [List.getLast?_eq_getElem?, hw, h]; simp; omega), hl]
  rfl
theorem numB_le {s : List UInt8} {d : Nat} (hd : d ≤ 9) : -1 ≤ numB s d ∧ numB s d ≤ 999999999 := by
  unfold numB
  split
  · omega
  · rename_i h
    cases hr : rdN s 0 with
    | none => simp
    | some v =>
      have h1 := rdN_nn (Int.le_refl 0) hr
      have h2 := (rdN_le s 0 v (Int.le_refl 0) hr).2
      have h3 : s.length ≤ d := by
        apply Classical.byContradiction
        intro hc
        exact h (.inr (.inl (by omega)))
      have p9 : (10 : Int) ^ s.length ≤ 10 ^ 9 := p10 (by omega)
      have e9 : (10 : Int) ^ 9 = 1000000000 := by decide
      simp only [Option.getD_some]
      omega
theorem parR_ma {s : List UInt8} (h : ¬ 65536 < s.length) {rows : List (Int × List Int)} {l : Int} (hl : linR (spl 10 s) = some (rows, l)) (hb : ¬ (64 < rows.length ∨ 64 < l)) (hM : ¬ MA (sgR rows) (lbR rows) (4 * rows.length)) : parR s = .err 3 := by
  unfold parR; rw [if_neg h, lin_rr, hl]; simp only []; rw [if_neg hb, if_neg hM]
theorem parR_pv {s : List UInt8} (h : ¬ 65536 < s.length) {rows : List (Int × List Int)} {l : Int} (hl : linR (spl 10 s) = some (rows, l)) (hb : ¬ (64 < rows.length ∨ 64 < l)) (hM : MA (sgR rows) (lbR rows) (4 * rows.length)) (hV : PV (sgR rows) (mtL (sgR rows) (lbR rows) (4 * rows.length)) l) : parR s = .ok (sgR rows) (mtL (sgR rows) (lbR rows) (4 * rows.length)) l.toNat := by
  unfold parR; rw [if_neg h, lin_rr, hl]; simp only []; rw [if_neg hb, if_pos hM, if_pos hV]
theorem parR_nv {s : List UInt8} (h : ¬ 65536 < s.length) {rows : List (Int × List Int)} {l : Int} (hl : linR (spl 10 s) = some (rows, l)) (hb : ¬ (64 < rows.length ∨ 64 < l)) (hM : MA (sgR rows) (lbR rows) (4 * rows.length)) (hV : ¬ PV (sgR rows) (mtL (sgR rows) (lbR rows) (4 * rows.length)) l) : parR s = .err 7 := by
  unfold parR; rw [if_neg h, lin_rr, hl]; simp only []; rw [if_neg hb, if_pos hM, if_neg hV]
theorem own_GM {h0 T0 T : Heap} {o t : SV} {l : Int} {Lb M xs : List Int} (ho : Own (HH h0 T0 ++ [bx o l]) (HH h0 T0 ++ (bx o l :: T)) t (xs.map (.int .i64))) : IsInts (GM h0 T0 T o l Lb M) t xs := by
  have e : HH h0 T0 ++ (bx o l :: T) = (HH h0 T0 ++ [bx o l]) ++ T := by simp
  rw [e] at ho
  have h1 := ownRe (B' := HH h0 T0 ++ [bm h0 T0 T o l Lb]) ho (by simp)
  have := IsSl.ext h1.ids (⟨[EX M], rfl⟩ : Ext _ (((HH h0 T0 ++ [bm h0 T0 T o l Lb]) ++ T) ++ [EX M]))
  rw [List.append_assoc, List.append_assoc] at this
  exact this
theorem own_fin {h0 T0 T U : Heap} {b b' c : Blk} {t : SV} {xs Ms : List Int} (ho : Own (HH h0 T0 ++ [b]) (HH h0 T0 ++ (b :: T)) t (xs.map (.int .i64))) : IsInts (h0 ++ (c :: (T0 ++ ((b' :: (T ++ [EX Ms])) ++ U)))) t xs := by
  have e : HH h0 T0 ++ (b :: T) = (HH h0 T0 ++ [b]) ++ T := by simp
  rw [e] at ho
  have h1 := ownRe (B' := (h0 ++ (c :: T0)) ++ [b']) ho (by simp)
  have := IsSl.ext h1.ids (⟨[EX Ms] ++ U, rfl⟩ : Ext _ ((((h0 ++ (c :: T0)) ++ [b']) ++ T) ++ ([EX Ms] ++ U)))
  have e2 : (((h0 ++ (c :: T0)) ++ [b']) ++ T) ++ ([EX Ms] ++ U) = h0 ++ (c :: (T0 ++ ((b' :: (T ++ [EX Ms])) ++ U))) := by simp
  rw [e2] at this
  exact this
theorem ex_fin {h0 T0 T U : Heap} {b' c : Blk} {Ms : List Int} {n : Nat} (hn : Ms.length = n) : IsInts (h0 ++ (c :: (T0 ++ ((b' :: (T ++ [EX Ms])) ++ U)))) (.slc ((HH h0 T0).length + (T.length + 1)) 0 n (some n)) Ms := by
  have h1 := exL (h0 := h0 ++ (c :: T0)) (L := (b' :: (T ++ [EX Ms])) ++ U) (k := T.length + 1) (by simp) hn
  have e1 : (h0 ++ (c :: T0)).length = (HH h0 T0).length := by simp
  have e2 : (h0 ++ (c :: T0)) ++ ((b' :: (T ++ [EX Ms])) ++ U) = h0 ++ (c :: (T0 ++ ((b' :: (T ++ [EX Ms])) ++ U))) := by simp
  rw [e1, e2] at h1
  exact h1
theorem nils_apart : Go.Ab.Apart .nilS .nilS := fun j => .inl (by intro o n c e; cases e)

theorem call23 (h0 : Heap) (s : List UInt8) : ∃ v h', Cal FT HKt 23 [.sc (tb s)] h0 v h' ∧ DecV (parR s) h0 v h' := by
  refine Cal.of (F := a23) rfl rfl rfl ?_
  by_cases c0 : 65536 < s.length
  · have hd := parR_full c0
    repeat' (first | refine w_seq ?_ | refine w_seqN ?_ | refine w_seqR ?_ | refine w_ret ?_ | refine w_ops ?_ | ((refine i_cond ?_); refine w_condT rfl ?_) | ((refine i_nil ?_); first | refine w_end2 rfl rfl ?_ | refine w_end3 rfl rfl rfl ?_) | ((refine i_cons ?_); first | refine k_new0 ?_ | refine k_slen rfl ?_ | refine k_stL (k := 0) rfl rfl rfl rfl rfl ?_ | refine k_mv rfl ?_ | refine k_gtrT rfl rfl (by omega) ?_ | refine k_ok rfl rfl ?_))
    exact ⟨.inr rfl, oK_err rfl rfl ⟨⟨_, rfl⟩, by rw [hd]⟩⟩
  have k1 : ∃ v h', Cal FT HKt 46 [.sc (tb s), .sc (.int .u8 10)] (h0 ++ [R0]) v h' ∧ ∃ T0 u, h' = HH h0 T0 ∧ v = .sc u ∧ Own (h0 ++ [R0]) h' u ((spl 10 s).map tb) := by
    obtain ⟨v, h', a, ⟨T, rfl⟩, u, rfl, ho⟩ := call46 (h0 ++ [R0]) s 10 (by omega)
    exact ⟨_, _, a, T, u, by simp, rfl, ho⟩
  have hcnt := spl_cnt 10 s
  have hWl := spl_sum 10 s
  have hlin : linR (spl 10 s) = linR (spl 10 s) := rfl
  have hform := fun hl => parR_form c0 hl
  have hmany := fun rows l hl hb => parR_many (rows := rows) (l := l) c0 hl hb
  have hma := fun rows l hl hb hM => parR_ma (rows := rows) (l := l) c0 hl hb hM
  have hpv := fun rows l hl hb hM hV => parR_pv (rows := rows) (l := l) c0 hl hb hM hV
  have hnv := fun rows l hl hb hM hV => parR_nv (rows := rows) (l := l) c0 hl hb hM hV
  generalize hLS : spl 10 s = LS at *
  have hLSl : LS.length ≤ 65537 := by omega
  repeat' (first | refine w_seq ?_ | refine w_seqN ?_ | refine w_skip ?_ | refine w_ops ?_ | ((refine i_cond ?_); refine w_condF rfl ?_) | ((refine i_nil ?_); first | refine w_end2 rfl rfl ?_ | refine w_end3 rfl rfl rfl ?_) | ((refine i_cons ?_); first | refine k_new0 ?_ | refine k_slen rfl ?_ | (refine k_call rfl k1 ?_; rintro v h1 ⟨T0, u, rfl, rfl, hu⟩) | refine k_mv rfl ?_ | refine k_gtrF rfl rfl (by omega) ?_))
  have hsl : IsSl (HH h0 T0) u 1 (LS.map tb).length (LS.map tb) := hu.sl
  have hlen : lenS false u = some (LS.length : Int) := by have := hsl.len; rwa [List.length_map] at this
  by_cases c1 : LS.length < 2
  · have hd := hform (linR_few c1)
    repeat' (first | refine w_seq ?_ | refine w_seqN ?_ | refine w_seqR ?_ | refine w_ret ?_ | refine w_ops ?_ | ((refine i_cond ?_); refine w_condT rfl ?_) | ((refine i_nil ?_); first | refine w_end2 rfl rfl ?_ | refine w_end3 rfl rfl rfl ?_) | ((refine i_cons ?_); first | refine k_len rfl hlen ?_ | refine k_stL (k := 0) rfl rfl rfl rfl rfl ?_ | refine k_skip rfl ?_ | refine k_mv rfl ?_ | refine k_pickT rfl rfl ?_ | refine k_lssT rfl rfl (by omega) ?_ | refine k_ok rfl rfl ?_))
    exact ⟨.inr rfl, oK_err rfl rfl ⟨⟨_, rfl⟩, by rw [hd]⟩⟩
  obtain ⟨w1, hw1⟩ : ∃ w, LS[LS.length - 1]? = some w := ⟨_, List.getElem?_eq_getElem (by omega)⟩
  obtain ⟨w2, hw2⟩ : ∃ w, LS[LS.length - 2]? = some w := ⟨_, List.getElem?_eq_getElem (by omega)⟩
  have hw2l := hWl w2 (List.mem_of_getElem? hw2)
  obtain ⟨id, off, cap, eu, hr1⟩ := hsl.at (i := LS.length - 1) (x := tb w1) (by simp [hw1])
  obtain ⟨id2, off2, cap2, eu2, hr2⟩ := hsl.at (i := LS.length - 2) (x := tb w2) (by simp [hw2])
  rw [eu] at eu2
  simp only [SV.slc.injEq, true_and] at eu2
  obtain ⟨rfl, rfl, rfl⟩ := eu2
  rw [List.length_map] at eu
  subst eu
  have hr1' : ∀ {j : Int}, j = ((LS.length - 1 : Nat) : Int) → readN (HH h0 T0) id (off + j.toNat * 1) 1 = some [tb w1] := fun hj => by subst hj; rw [Int.toNat_natCast]; exact hr1
  have hr2' : ∀ {j : Int}, j = ((LS.length - 2 : Nat) : Int) → readN (HH h0 T0) id (off + j.toNat * 1) 1 = some [tb w2] := fun hj => by subst hj; rw [Int.toNat_natCast]; exact hr2
  by_cases c2 : w1 = []
  case neg =>
    have hd := hform (linR_end hw1 c2)
    have hne : (!decide (w1 = [])) = true := by simp [c2]
    repeat' (first | refine w_seq ?_ | refine w_seqN ?_ | refine w_seqR ?_ | refine w_ret ?_ | refine w_ops ?_ | ((refine i_cond ?_); refine w_condT rfl ?_) | ((refine i_nil ?_); first | refine w_end2 rfl rfl ?_ | refine w_end3 rfl rfl rfl ?_) | ((refine i_cons ?_); first | refine k_len rfl hlen ?_ | refine k_idxA rfl rfl (by omega) ?_ | refine k_ld rfl (hr1' (by omega)) ?_ | refine k_sneq rfl (show _ = some (tb []) from rfl) hne ?_ | refine k_stL (k := 0) rfl rfl rfl rfl rfl ?_ | refine k_want rfl ?_ | refine k_mv rfl ?_ | refine k_pickF rfl rfl ?_ | refine k_sub rfl rfl (by omega) ?_ | refine k_lssF rfl rfl (by omega) ?_ | refine k_ok rfl rfl ?_))
    exact ⟨.inr rfl, oK_err rfl rfl ⟨⟨_, rfl⟩, by rw [hd]⟩⟩
  have hne : (!decide (w1 = [])) = false := by simp [c2]
  have hgo := linR_go c1 hw1 c2 hw2
  by_cases c3 : w2.length < 7
  · have hd := hform (hgo.trans (if_pos (.inl c3)))
    repeat' (first | refine w_seq ?_ | refine w_seqN ?_ | refine w_seqR ?_ | refine w_skip ?_ | refine w_ret ?_ | refine w_ops ?_ | ((refine i_cond ?_); first | refine w_condT rfl ?_ | refine w_condF rfl ?_) | ((refine i_nil ?_); first | refine w_end2 rfl rfl ?_ | refine w_end3 rfl rfl rfl ?_ | refine w_end4 rfl rfl rfl rfl ?_) | ((refine i_cons ?_); first | refine k_len rfl hlen ?_ | refine k_idxA (j := ((LS.length : Int) - 1)) rfl rfl (by omega) ?_ | refine k_idxA (j := ((LS.length : Int) - 2)) rfl rfl (by omega) ?_ | refine k_ld rfl (hr1' (j := ((LS.length : Int) - 1)) (by omega)) ?_ | refine k_ld rfl (hr2' (j := ((LS.length : Int) - 2)) (by omega)) ?_ | refine k_sneq rfl (show _ = some (tb []) from rfl) hne ?_ | refine k_slen rfl ?_ | refine k_stL (k := 0) rfl rfl rfl rfl rfl ?_ | refine k_skip rfl ?_ | refine k_want rfl ?_ | refine k_mv rfl ?_ | refine k_pickT rfl rfl ?_ | refine k_pickF rfl rfl ?_ | refine k_sub rfl rfl (by omega) ?_ | refine k_lssT rfl rfl (by omega) ?_ | refine k_lssF rfl rfl (by omega) ?_ | refine k_ok rfl rfl ?_))
    exact ⟨.inr rfl, oK_err rfl rfl ⟨⟨_, rfl⟩, by rw [hd]⟩⟩
  by_cases c4 : w2.take 6 = loopsW
  case neg =>
    have hd := hform (hgo.trans (if_pos (.inr (.inl c4))))
    have hne4 : (!decide (w2.take ((6 : Int)).toNat = loopsW)) = true := by simp [c4]
    repeat' (first | refine w_seq ?_ | refine w_seqN ?_ | refine w_seqR ?_ | refine w_skip ?_ | refine w_ret ?_ | refine w_ops ?_ | ((refine i_cond ?_); first | refine w_condT rfl ?_ | refine w_condF rfl ?_) | ((refine i_nil ?_); first | refine w_end2 rfl rfl ?_ | refine w_end3 rfl rfl rfl ?_ | refine w_end4 rfl rfl rfl rfl ?_) | ((refine i_cons ?_); first | refine k_len rfl hlen ?_ | refine k_idxA (j := ((LS.length : Int) - 1)) rfl rfl (by omega) ?_ | refine k_idxA (j := ((LS.length : Int) - 2)) rfl rfl (by omega) ?_ | refine k_ld rfl (hr1' (j := ((LS.length : Int) - 1)) (by omega)) ?_ | refine k_ld rfl (hr2' (j := ((LS.length : Int) - 2)) (by omega)) ?_ | refine k_sneq rfl (show _ = some (tb []) from rfl) hne ?_ | refine k_slen rfl ?_ | refine k_sto rfl rfl (by omega) ?_ | refine k_sneq rfl (show _ = some (tb loopsW) from rfl) hne4 ?_ | refine k_stL (k := 0) rfl rfl rfl rfl rfl ?_ | refine k_skip rfl ?_ | refine k_want rfl ?_ | refine k_mv rfl ?_ | refine k_pickT rfl rfl ?_ | refine k_pickF rfl rfl ?_ | refine k_sub rfl rfl (by omega) ?_ | refine k_lssF rfl rfl (by omega) ?_ | refine k_ok rfl rfl ?_))
    exact ⟨.inr rfl, oK_err rfl rfl ⟨⟨_, rfl⟩, by rw [hd]⟩⟩
  have hne4 : (!decide (w2.take ((6 : Int)).toNat = loopsW)) = false := by simp [c4]
  have k2 := call47 (HH h0 T0) (w2.drop ((6 : Int)).toNat) 3 (by omega) (by rw [List.length_drop]; omega)
  have e6 : ((6 : Int)).toNat = 6 := rfl
  have hnl := numB_le (s := w2.drop 6) (d := 3) (by omega)
  rw [e6] at k2
  by_cases c5 : numB (w2.drop 6) 3 < 0
  · have hd := hform (hgo.trans (if_pos (.inr (.inr c5))))
    generalize numB (w2.drop 6) 3 = l at *
    repeat' (first | refine w_seq ?_ | refine w_seqN ?_ | refine w_seqR ?_ | refine w_skip ?_ | refine w_ret ?_ | refine w_ops ?_ | ((refine i_cond ?_); first | refine w_condT rfl ?_ | refine w_condF rfl ?_) | ((refine i_nil ?_); first | refine w_end2 rfl rfl ?_ | refine w_end3 rfl rfl rfl ?_ | refine w_end4 rfl rfl rfl rfl ?_) | ((refine i_cons ?_); first | refine k_len rfl hlen ?_ | refine k_idxA (j := ((LS.length : Int) - 1)) rfl rfl (by omega) ?_ | refine k_idxA (j := ((LS.length : Int) - 2)) rfl rfl (by omega) ?_ | refine k_ld rfl (hr1' (j := ((LS.length : Int) - 1)) (by omega)) ?_ | refine k_ld rfl (hr2' (j := ((LS.length : Int) - 2)) (by omega)) ?_ | refine k_sneq rfl (show _ = some (tb []) from rfl) hne ?_ | refine k_slen rfl ?_ | refine k_sto rfl rfl (by omega) ?_ | refine k_sfrom rfl rfl (by omega) ?_ | refine k_sneq rfl (show _ = some (tb loopsW) from rfl) hne4 ?_ | (refine k_call rfl k2 ?_; rintro v h2 ⟨rfl, rfl⟩) | refine k_stL (k := 0) rfl rfl rfl rfl rfl ?_ | refine k_want rfl ?_ | refine k_mv rfl ?_ | refine k_pickF rfl rfl ?_ | refine k_sub rfl rfl (by omega) ?_ | refine k_lssT rfl rfl (by omega) ?_ | refine k_lssF rfl rfl (by omega) ?_ | refine k_ok rfl rfl ?_))
    exact ⟨.inr rfl, oK_err rfl rfl ⟨⟨_, rfl⟩, by rw [hd]⟩⟩
  have hgo2 := hgo.trans (if_neg (by intro h; rcases h with h | h | h; exact c3 h; exact h c4; exact c5 h))
  clear hgo
  generalize numB (w2.drop 6) 3 = l at *
  repeat' (first | refine w_seq ?_ | refine w_seqN ?_ | refine w_blk ?_ | refine w_skip ?_ | refine w_ops ?_ | ((refine i_cond ?_); refine w_condF rfl ?_) | ((refine i_nil ?_); first | refine w_end3 rfl rfl rfl ?_ | refine w_end4 rfl rfl rfl rfl ?_ | refine w_end5 rfl rfl rfl rfl rfl ?_) | ((refine i_cons ?_); first | refine k_len rfl hlen ?_ | refine k_idxA (j := ((LS.length : Int) - 1)) rfl rfl (by omega) ?_ | refine k_idxA (j := ((LS.length : Int) - 2)) rfl rfl (by omega) ?_ | refine k_ld rfl (hr1' (j := ((LS.length : Int) - 1)) (by omega)) ?_ | refine k_ld rfl (hr2' (j := ((LS.length : Int) - 2)) (by omega)) ?_ | refine k_sneq rfl (show _ = some (tb []) from rfl) hne ?_ | refine k_slen rfl ?_ | refine k_sto rfl rfl (by omega) ?_ | refine k_sfrom rfl rfl (by omega) ?_ | refine k_sneq rfl (show _ = some (tb loopsW) from rfl) hne4 ?_ | (refine k_call rfl k2 ?_; rintro v h2 ⟨rfl, rfl⟩) | refine k_new0 ?_ | refine k_stL (k := 0) rfl rfl rfl rfl rfl ?_ | refine k_want rfl ?_ | refine k_mv rfl ?_ | refine k_pickF rfl rfl ?_ | refine k_sub rfl rfl (by omega) ?_ | refine k_lssF rfl rfl (by omega) ?_ | refine k_ok rfl rfl ?_))
  have hLL : ∀ w ∈ LS, w.length ≤ 100000 := fun w hw => by have := hWl w hw; omega
  have hu1 : IsSl (HH h0 T0) (.slc id off LS.length cap) 1 LS.length (LS.map tb) := by have := hsl; rw [List.length_map] at this; exact this
  refine w_loop (I23a h0 T0 (.slc id off LS.length cap) LS l) (cntV (LS.length - 2) 8) (R23a h0 T0 LS l) ⟨0, [], .nilS, .nilS, [], by omega, rfl, rfl, .inl ⟨rfl, rfl⟩, .inl ⟨rfl, rfl⟩, nils_apart, rfl⟩ (round23a h0 T0 _ LS l hu1 (by omega) hLL) ?_
  rintro ex E' h' hR
  cases ex with
  | nm => exact hR.elim
  | rt =>
    obtain ⟨hno, ⟨V, rfl⟩, rfl⟩ := hR
    have hd := hform (hgo2.trans (by rw [hno]))
    repeat' (first | refine w_seqR ?_ | refine w_blkR ?_)
    exact ⟨.inr rfl, oK_err rfl rfl ⟨⟨_, rfl⟩, by rw [hd]⟩⟩
  | ex z =>
    obtain ⟨rfl, T, o, o2, ps, hps, rfl, ho, ho2, hap, a, b, c, rfl⟩ := hR
    rw [hps] at hgo2
    obtain ⟨hrow, hpl⟩ := crsAll_rows hps
    have hsl1 := lbR_len hrow
    have hsl2 := sgR_len ps
    have ho1 : lenS false o = some (ps.length : Int) := by
      have := ho.sl.len
      rwa [List.length_map, hsl2] at this
    have hol : lenS false o2 = some ((4 * ps.length : Nat) : Int) := by
      have := ho2.sl.len
      rwa [List.length_map, hsl1] at this
    have hpl2 : ps.length ≤ 65537 := by rw [hpl, List.length_take]; omega
    by_cases c6 : 64 < ps.length
    · have hd := hmany ps l hgo2 (.inl c6)
      repeat' (first | refine w_seq ?_ | refine w_seqN ?_ | refine w_seqR ?_ | refine w_blkX ?_ | refine w_ret ?_ | refine w_ops ?_ | ((refine i_cond ?_); refine w_condT rfl ?_) | ((refine i_nil ?_); first | refine w_end2 rfl rfl ?_ | refine w_end4 rfl rfl rfl rfl ?_) | ((refine i_cons ?_); first | refine k_fldA rfl ?_ | refine k_ldL (k := 0) rfl rfl ?_ | refine k_len rfl ho1 ?_ | refine k_stR rfl rfl ?_ | refine k_skip rfl ?_ | refine k_mv rfl ?_ | refine k_pickT rfl rfl ?_ | refine k_gtrT rfl rfl (by omega) ?_ | refine k_ok rfl rfl ?_))
      exact ⟨.inr rfl, oK_err rfl rfl ⟨⟨_, rfl⟩, by rw [hd]⟩⟩
    by_cases c7 : 64 < l
    · have hd := hmany ps l hgo2 (.inr c7)
      repeat' (first | refine w_seq ?_ | refine w_seqN ?_ | refine w_seqR ?_ | refine w_blkX ?_ | refine w_ret ?_ | refine w_ops ?_ | ((refine i_cond ?_); refine w_condT rfl ?_) | ((refine i_nil ?_); first | refine w_end2 rfl rfl ?_ | refine w_end4 rfl rfl rfl rfl ?_) | ((refine i_cons ?_); first | refine k_fldA rfl ?_ | refine k_ldL (k := 0) rfl rfl ?_ | refine k_len rfl ho1 ?_ | refine k_stR rfl rfl ?_ | refine k_want rfl ?_ | refine k_mv rfl ?_ | refine k_pickF rfl rfl ?_ | refine k_gtrT rfl rfl (by omega) ?_ | refine k_gtrF rfl rfl (by omega) ?_ | refine k_ok rfl rfl ?_))
      exact ⟨.inr rfl, oK_err rfl rfl ⟨⟨_, rfl⟩, by rw [hd]⟩⟩
    have c67 : ¬ (64 < ps.length ∨ 64 < l) := by omega
    have hma := hma ps l hgo2 c67
    have hpv := hpv ps l hgo2 c67
    have hnv := hnv ps l hgo2 c67
    rw [← hsl1] at hma hpv hnv hol
    have i1 : ∀ M, IsInts (GM h0 T0 T o l (lbR ps) M) o2 (lbR ps) := fun M => own_GM ho2
    have i2 : ∀ M, IsInts (GM h0 T0 T o l (lbR ps) M) o (sgR ps) := fun M => own_GM ho
    have hsg := sgR_sgn hrow
    have hn2 : (sgR ps).length ≤ 64 := by omega
    have h4 : (lbR ps).length = 4 * (sgR ps).length := by omega
    generalize hS : sgR ps = S at *
    generalize hLb : lbR ps = Lb at *
    repeat' (first | refine w_seq ?_ | refine w_seqN ?_ | refine w_blk ?_ | refine w_blkX ?_ | refine w_skip ?_ | refine w_ops ?_ | ((refine i_cond ?_); refine w_condF rfl ?_) | ((refine i_nil ?_); first | refine w_end3 rfl rfl rfl ?_ | refine w_end4 rfl rfl rfl rfl ?_) | ((refine i_cons ?_); first | refine k_fldA rfl ?_ | refine k_ldL (k := 0) rfl rfl ?_ | refine k_len rfl ho1 ?_ | refine k_len rfl hol ?_ | (refine k_mkL (n := Lb.length) rfl rfl (by simp only [bigN]; omega) ?_) | refine k_stL (k := 0) rfl rfl rfl rfl rfl ?_ | refine k_want rfl ?_ | refine k_mv rfl ?_ | refine k_pickF rfl rfl ?_ | refine k_gtrF rfl rfl (by omega) ?_))
    have xE : EX (List.replicate Lb.length 0) = .cells (List.replicate Lb.length (.int .i64 0)) true 1 := by simp [EX]
    refine w_loop (I23h h0 T0 T o o2 l S Lb) (cntV Lb.length 11) (R23h h0 T0 T o l S Lb) ⟨0, List.replicate Lb.length 0, by omega, ⟨by simp, fun h' hh => by omega⟩, by simp only [GM]; rw [xE]; rfl, rfl⟩ (round23h h0 T0 T o o2 l S Lb i1 i2 hsg hn2 h4) ?_
    rintro ex E' h' hR
    cases ex with
    | nm => exact hR.elim
    | rt =>
      obtain ⟨hno, ⟨V, rfl⟩, rfl⟩ := hR
      have hd := hma hno
      repeat' (first | refine w_seqR ?_ | refine w_blkR ?_)
      exact ⟨.inr rfl, oK_err rfl rfl ⟨⟨_, rfl⟩, by rw [hd]⟩⟩
    | ex z =>
      obtain ⟨rfl, hM, rfl, a, b, c, rfl⟩ := hR
      have k5 := call40 (GM h0 T0 T o l Lb (mtL S Lb Lb.length)) o (.slc ((HH h0 T0).length + (T.length + 1)) 0 Lb.length (some Lb.length)) l S (mtL S Lb Lb.length) (i2 _) (exL (k := T.length + 1) (by simp) (mtL_len _ _ _))
      generalize hMs : mtL S Lb Lb.length = Ms at *
      have hMl : Ms.length = Lb.length := by rw [← hMs]; exact mtL_len _ _ _
      by_cases hV : PV S Ms l
      · have hd := hpv hM hV
        have k6 : ∃ v h', Cal FT HKt 40 [.agg [o, .slc ((HH h0 T0).length + (T.length + 1)) 0 Lb.length (some Lb.length), .int .i64 l]] (GM h0 T0 T o l Lb Ms) v h' ∧ Ext (GM h0 T0 T o l Lb Ms) h' ∧ v = .sc (.bool true) := by
          obtain ⟨v, h', a, b, r, rfl, d⟩ := k5
          obtain rfl := d.2 hV
          exact ⟨_, h', a, b, rfl⟩
        have el : ((l.toNat : Nat) : Int) = l := Int.toNat_of_nonneg (by omega)
        repeat' (first | refine w_seq ?_ | refine w_seqN ?_ | refine w_blkX ?_ | refine w_skip ?_ | refine w_ret ?_ | refine w_ops ?_ | ((refine i_cond ?_); refine w_condF rfl ?_) | ((refine i_nil ?_); first | refine w_end2 rfl rfl ?_ | refine w_end3 rfl rfl rfl ?_) | ((refine i_cons ?_); first | refine k_ldAL (k := 0) (vs := [o, .slc ((HH h0 T0).length + (T.length + 1)) 0 Lb.length (some Lb.length), .int .i64 l]) rfl rfl ?_ | (refine k_call rfl k6 ?_; rintro v h3 ⟨⟨U, rfl⟩, rfl⟩; rw [List.append_assoc (HH h0 T0)]) | refine k_stR rfl rfl ?_ | refine k_mv rfl ?_ | refine k_notT rfl ?_))
        refine ⟨.inr rfl, oK_cellt rfl (by rw [rdA]; rfl) rfl ⟨⟨_, rfl⟩, ?_⟩⟩
        rw [hd]
        refine ⟨o, .slc ((HH h0 T0).length + (T.length + 1)) 0 Lb.length (some Lb.length), by rw [el]; rfl, ?_, ?_⟩
        · exact own_fin ho
        · exact ex_fin hMl
      · have hd := hnv hM hV
        have k6 : ∃ v h', Cal FT HKt 40 [.agg [o, .slc ((HH h0 T0).length + (T.length + 1)) 0 Lb.length (some Lb.length), .int .i64 l]] (GM h0 T0 T o l Lb Ms) v h' ∧ Ext (GM h0 T0 T o l Lb Ms) h' ∧ v = .sc (.bool false) := by
          obtain ⟨v, h', a, b, r, rfl, d⟩ := k5
          cases r with
          | false => exact ⟨_, h', a, b, rfl⟩
          | true => exact absurd (d.1 rfl) hV
        repeat' (first | refine w_seq ?_ | refine w_seqN ?_ | refine w_seqR ?_ | refine w_blkX ?_ | refine w_ret ?_ | refine w_ops ?_ | ((refine i_cond ?_); refine w_condT rfl ?_) | ((refine i_nil ?_); first | refine w_end2 rfl rfl ?_ | refine w_end3 rfl rfl rfl ?_) | ((refine i_cons ?_); first | refine k_ldAL (k := 0) (vs := [o, .slc ((HH h0 T0).length + (T.length + 1)) 0 Lb.length (some Lb.length), .int .i64 l]) rfl rfl ?_ | (refine k_call rfl k6 ?_; rintro v h3 ⟨⟨U, rfl⟩, rfl⟩; rw [List.append_assoc (HH h0 T0)]) | refine k_stR rfl rfl ?_ | refine k_mv rfl ?_ | refine k_notF rfl ?_ | refine k_ok rfl rfl ?_))
        exact ⟨.inr rfl, oK_err rfl rfl ⟨⟨_, rfl⟩, by rw [hd]⟩⟩
end Go.Proofs.YtehnalbdfnmphaaDoor
