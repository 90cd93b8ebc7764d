/- The law PlanarRenames, reckoned. -/
import Derived.Test.YtehnalbdfnmphaaDoorRN1
namespace Go.Proofs.YtehnalbdfnmphaaDoor
open Go.Ab
set_option linter.unusedVariables false
set_option linter.unusedSimpArgs false
set_option maxRecDepth 20000
set_option maxHeartbeats 4000000
attribute [local irreducible] wOps wA wSeq wBlk wRound wRoundI wOpsD

/-- The lines. -/
def linesR (xs lb : List Int) (l : Int) : List (List UInt8) := (List.range xs.length).map (fun i => rowK xs lb i 4) ++ [loopsT ++ Lib.itoa l]
/-- What is written, after c lines. -/
def outR (xs lb : List Int) (l : Int) (c : Nat) : List UInt8 := if c ≤ xs.length then txtK xs lb c else txt xs lb l
section
variable (hB : Heap) (p u : SV) (k m l : Int) (xs lb lb' : List Int)
def I10c (E : Env) (h : Heap) : Prop := Ext hB h ∧ ∃ c : Nat, c ≤ xs.length + 1 ∧
  E = [(3, some (.sc p)), (9, some (.sc (.int .i64 k))), (10, some (.sc (.int .i64 m))), (11, some (.sc (tb (outR xs lb' l c)))), (37, some (.sc u)), (38, some (.sc (.int .i64 (xs.length + 1 : Nat)))), (39, some (.sc (.int .i64 (c : Nat))))]
def R10c (ex : Ex) (E : Env) (h : Heap) : Prop := Ext hB h ∧ ex = .ex 0 ∧ ∃ a b c d e f,
  E = [(3, some (.sc p)), (9, a), (10, b), (11, some (.sc (tb (txt xs lb' l)))), (37, c), (38, d), (39, e), (40, f)]
theorem round10c (hs : ∀ x ∈ xs, Sgn x) (hn : xs.length ≤ 64) (hl0 : 0 ≤ l ∧ l ≤ 64) (hL : LabR lb (4 * xs.length)) (hL' : LabR lb' (4 * xs.length)) (hM' : Mod lb')
    (hR : ∀ g, g < 4 * xs.length → (0 ≤ lb.getD g 0 ∧ lb.getD g 0 ≤ 128) ∧ (0 ≤ k * lb.getD g 0 ∧ k * lb.getD g 0 ≤ 8960) ∧ lb'.getD g 0 = 9999 - k * lb.getD g 0 - m) (hm : 0 ≤ m ∧ m ≤ 255)
    (hu : IsSl hB u 1 (xs.length + 1) ((linesR xs lb l).map tb)) (E : Env) (h : Heap) (hI : I10c hB p u k m l xs lb' E h) :
    wA FT HKt b10L0 (E.keep [3, 9, 10, 11, 37, 38, 39]) h (wRound (I10c hB p u k m l xs lb') (cntV (xs.length + 1) 39) (cntV (xs.length + 1) 39 E h) (R10c hB p l xs lb')) := by
  obtain ⟨he, c, hc, rfl⟩ := hI
  by_cases hlt : c < xs.length + 1
  · have hout : outR xs lb' l c = txtK xs lb' c := if_pos (by omega)
    have hul : (linesR xs lb l).length = xs.length + 1 := by simp [linesR]
    rw [hout]
    have tl := txtK_len (xs := xs) hM' c
    have il := itoa_len (x := l) (by omega)
    by_cases hcn : c < xs.length
    · have hline : (linesR xs lb l)[c]? = some (rowK xs lb c 4) := by
        unfold linesR
        rw [List.getElem?_append_left (by simp; omega)]
        simp [hcn]
      have hx : Sgn (xs.getD c 0) := hs _ (by
        have : xs[c]? = some (xs.getD c 0) := by simp [List.getD, hcn]
        exact List.mem_of_getElem? this)
      have hu' : IsSl h u 1 ((linesR xs lb l).map tb).length ((linesR xs lb l).map tb) := by rw [List.length_map, hul]; exact IsSl.ext hu he
      obtain ⟨id, off, cap, eu, hr⟩ := hu'.at (i := c) (x := tb (rowK xs lb c 4)) (by simp [hline])
      rw [List.length_map, hul] at eu
      subst eu
      have hr' : ∀ {j : Int}, j = (c : Nat) → readN h id (off + j.toNat * 1) 1 = some [tb (rowK xs lb c 4)] := fun hj => by subst hj; rw [Int.toNat_natCast]; exact hr
      have rl : (rowK xs lb c 4).length ≤ 1000000 := by
        have hM : ∀ j, j < 4 → (Lib.itoa (lb.getD (4 * c + j) 0)).length ≤ 21 := fun j hj => itoa_len (by have := hL (4 * c + j) (by omega); omega)
        have := hM 0 (by omega)
        have := hM 1 (by omega)
        have := hM 2 (by omega)
        have := hM 3 (by omega)
        have hsg : (sgT (xs.getD c 0)).length = 1 := by unfold sgT; split <;> rfl
        rw [rowK_form]
        simp only [List.length_append, List.length_cons]
        omega
      have rl' := rowK_len (xs := xs) hM' c 4
      have k1 := split_call h (rowK xs lb c 4) 32 rl
      rw [wsI_spl (lb' := lb') hL (by omega)] at k1
      have k2 := join_callR h (wsI xs lb lb' c 5) (by simp [wsI]) (by rw [wsI_join]; omega) (by simp [wsI])
      rw [wsI_join] at k2
      have hw0 : readN [SB (wsI xs lb lb' c 1)] 0 (0 + ((0 : Int)).toNat * 1) 1 = some [tb (sgT (xs.getD c 0))] := rfl
      have hne : (!decide (sgT (xs.getD c 0) = [108, 111, 111, 112, 115])) = true := by unfold sgT; split <;> decide
      repeat' (first | refine w_seq ?_ | refine w_seqN ?_ | refine w_blk ?_ | refine w_skip ?_ | refine w_ops ?_ | ((refine i_cond ?_); refine w_condT rfl ?_) | ((refine i_nil ?_); first | refine w_end8 rfl rfl rfl rfl rfl rfl rfl rfl ?_ | refine w_end9 rfl rfl rfl rfl rfl rfl rfl rfl rfl ?_) | ((refine i_cons ?_); first | refine k_idxA (j := 0) rfl rfl (by simp [wsI]) ?_ | refine k_idxA rfl rfl (by omega) ?_ | refine k_ld rfl (hr' (by omega)) ?_ | (refine k_call rfl k1 ?_; rintro v h3 ⟨rfl, rfl⟩) | refine k_ldL rfl hw0 ?_ | refine k_sneq rfl (show _ = some (tb [108, 111, 111, 112, 115]) from rfl) hne ?_ | refine k_mv rfl ?_ | refine k_lssT rfl rfl (by omega) ?_))
      refine w_loop (I10w h p _ k m (txtK xs lb' c) xs lb lb' (xs.length + 1) c) (cntV 5 15) (R10w h p _ k m (txtK xs lb' c) xs lb lb' (xs.length + 1) c) ⟨1, by omega, by omega, rfl, rfl⟩ (round10w h p _ k m (txtK xs lb' c) xs lb lb' (xs.length + 1) c (fun j hj => hR (4 * c + j) (by omega)) hm) ?_
      rintro ex E' h' ⟨rfl, rfl, x2, y2, rfl⟩
      repeat' (first | refine w_seqN ?_ | refine w_blkN ?_ | refine w_blkX ?_ | refine w_ops ?_ | ((refine i_nil ?_); refine w_end7 rfl rfl rfl rfl rfl rfl rfl ?_) | ((refine i_cons ?_); first | (refine k_call rfl k2 ?_; rintro v h3 ⟨rfl, rfl⟩) | refine k_cat rfl (show _ = some (tb [10]) from rfl) (by simp only [List.length_append, List.length_cons, List.length_nil]; omega) ?_ | refine k_cat rfl rfl (by simp only [List.length_append, List.length_cons, List.length_nil]; omega) ?_ | refine k_mv rfl ?_ | refine k_add rfl rfl (by omega) ?_))
      refine w_roundN ⟨he.app _, c + 1, by omega, ?_⟩ (by simp [cntV, Env.get]; omega)
      rw [show outR xs lb' l (c + 1) = txtK xs lb' c ++ (rowK xs lb' c 4 ++ [10]) from if_pos (by omega)]
      rfl
    · have hcn : c = xs.length := by omega
      subst hcn
      have hline : (linesR xs lb l)[xs.length]? = some (loopsT ++ Lib.itoa l) := by
        unfold linesR
        rw [List.getElem?_append_right (by simp)]
        simp
      have hu' : IsSl h u 1 ((linesR xs lb l).map tb).length ((linesR xs lb l).map tb) := by rw [List.length_map, hul]; exact IsSl.ext hu he
      obtain ⟨id, off, cap, eu, hr⟩ := hu'.at (i := xs.length) (x := tb (loopsT ++ Lib.itoa l)) (by simp [hline])
      rw [List.length_map, hul] at eu
      subst eu
      have hr' : ∀ {j : Int}, j = (xs.length : Nat) → readN h id (off + j.toNat * 1) 1 = some [tb (loopsT ++ Lib.itoa l)] := fun hj => by subst hj; rw [Int.toNat_natCast]; exact hr
      have hspl : spl 32 (loopsT ++ Lib.itoa l) = [[108, 111, 111, 112, 115], Lib.itoa l] := by
        have e : loopsT ++ Lib.itoa l = [108, 111, 111, 112, 115] ++ 32 :: Lib.itoa l := rfl
        rw [e, spl_app (by decide), spl_no (itoa_no hl0.1 (by decide))]
      have k1 := split_call h (loopsT ++ Lib.itoa l) 32 (by simp [loopsT]; omega)
      rw [hspl] at k1
      have hj : Lib.join [[108, 111, 111, 112, 115], Lib.itoa l] [32] = loopsT ++ Lib.itoa l := by simp [Lib.join, List.intercalate, List.intersperse, loopsT]
      have k2 := join_callR h [[108, 111, 111, 112, 115], Lib.itoa l] (by simp) (by rw [hj]; simp [loopsT]; omega) (by simp)
      rw [hj] at k2
      have hw0 : readN [SB [[108, 111, 111, 112, 115], Lib.itoa l]] 0 (0 + ((0 : Int)).toNat * 1) 1 = some [tb [108, 111, 111, 112, 115]] := rfl
      have hne : (!decide (([108, 111, 111, 112, 115] : List UInt8) = [108, 111, 111, 112, 115])) = false := by decide
      repeat' (first | refine w_seq ?_ | refine w_seqN ?_ | refine w_blk ?_ | refine w_blkN ?_ | refine w_skip ?_ | refine w_ops ?_ | ((refine i_cond ?_); first | refine w_condT rfl ?_ | refine w_condF rfl ?_) | ((refine i_nil ?_); first | refine w_end7 rfl rfl rfl rfl rfl rfl rfl ?_ | refine w_end8 rfl rfl rfl rfl rfl rfl rfl rfl ?_ | refine w_end9 rfl rfl rfl rfl rfl rfl rfl rfl rfl ?_) | ((refine i_cons ?_); first | refine k_idxA rfl rfl (by omega) ?_ | refine k_ld rfl (hr' (by omega)) ?_ | (refine k_call rfl k1 ?_; rintro v h3 ⟨rfl, rfl⟩) | (refine k_call rfl k2 ?_; rintro v h3 ⟨rfl, rfl⟩) | refine k_ldL rfl hw0 ?_ | refine k_sneq rfl (show _ = some (tb [108, 111, 111, 112, 115]) from rfl) hne ?_ | refine k_cat rfl (show _ = some (tb [10]) from rfl) (by simp only [List.length_append, List.length_cons, List.length_nil, loopsT]; omega) ?_ | refine k_cat rfl rfl (by simp only [List.length_append, List.length_cons, List.length_nil, loopsT]; omega) ?_ | refine k_mv rfl ?_ | refine k_add rfl rfl (by omega) ?_ | refine k_lssT rfl rfl (by omega) ?_ | refine k_ok rfl rfl ?_))
      refine w_roundN ⟨he.app _, xs.length + 1, by omega, ?_⟩ (by simp [cntV, Env.get])
      rw [show outR xs lb' l (xs.length + 1) = txtK xs lb' xs.length ++ (loopsT ++ Lib.itoa l ++ [10]) by rw [outR, if_neg (by omega), txt]; simp]
      rfl
  · have : c = xs.length + 1 := by omega
    subst this
    rw [show outR xs lb' l (xs.length + 1) = txt xs lb' l from if_neg (by omega)]
    repeat' (first | refine w_seq ?_ | refine w_seqN ?_ | refine w_seqX ?_ | refine w_exit ?_ | refine w_ops ?_ | ((refine i_cond ?_); refine w_condF rfl ?_) | ((refine i_nil ?_); refine w_end8 rfl rfl rfl rfl rfl rfl rfl rfl ?_) | ((refine i_cons ?_); refine k_lssF rfl rfl (by omega) ?_))
    exact w_roundX ⟨he, rfl, _, _, _, _, _, _, rfl⟩
end

theorem call10 (h0 : Heap) (s : SV) (xs : List Int) (hx : IsInts h0 s xs) (m : SV) (ms : List Int) (hs : IsInts h0 m ms) (l : Int) (hl : -9223372036854775808 ≤ l ∧ l ≤ 9223372036854775807) (t : Int) (ht : 0 ≤ t ∧ t ≤ 255) (q : Int) (hq : 0 ≤ q ∧ q ≤ 255) :
    ∃ v h', Cal FT HKt 10 [.agg [s, m, .int .i64 l], .sc (.int .u8 t), .sc (.int .u8 q)] h0 v h' ∧ v = .sc (.bool true) := by
  refine Cal.of (F := a10) rfl rfl rfl ?_
  repeat' (first | refine w_seq ?_ | refine w_seqN ?_ | refine w_skip ?_ | refine w_ops ?_ | ((refine i_cond ?_); refine w_condF rfl ?_) | ((refine i_nil ?_); first | refine w_end3 rfl rfl rfl ?_ | refine w_end4 rfl rfl rfl rfl ?_) | ((refine i_cons ?_); first | (refine k_box rfl rfl ?_; intro h1 e1 l1 b1) | (refine k_call rfl (awake_callT _) ?_; rintro v h2 ⟨rfl, rfl⟩) | refine k_mv rfl ?_ | refine k_notT rfl ?_))
  have k1 := call12 h2 s m l xs ms (IsSl.ext hx e1) (IsSl.ext hs e1)
  repeat' (((refine i_cons ?_); first | refine k_ldA rfl b1 rfl ?_ | (refine k_call rfl k1 ?_; rintro v h3 ⟨e3, hR⟩) | refine k_mv rfl ?_))
  have b3 := b1.ext e3
  have e13 := e1.trans e3
  rcases hR with ⟨hV, rfl⟩ | ⟨hV, rfl⟩
  · have hF := hV.1
    have h0l := hF.l0
    have h64 := hF.l64
    have hn := hF.n64
    have h4 := hF.four
    obtain ⟨k, hk⟩ : ∃ k, k = t % 70 + 1 := ⟨_, rfl⟩
    have hk70 : 1 ≤ k ∧ k ≤ 70 := by omega
    have hLR := labs_R hF
    have hren := ren_R hF hk70 hq
    have hlen := ren_len hF hk70 hq
    have hok := ren_ok hF hk70 hq
    have hM' : Mod (renL k q (labs xs ms)) := fun v hv => by
      obtain ⟨i, hi⟩ := List.mem_iff_getElem?.1 hv
      have hil := (List.getElem?_eq_some_iff.1 hi).1
      have := hren i (by omega)
      rw [show (renL k q (labs xs ms)).getD i 0 = v by simp [List.getD, hi]] at this
      omega
    have etx : txt xs (labs xs ms) l = (txtK xs (labs xs ms) xs.length ++ (loopsT ++ Lib.itoa l)) ++ [10] := by simp [txt]
    have tl := txt_len hF
    have al : (txtK xs (labs xs ms) xs.length ++ (loopsT ++ Lib.itoa l)).length ≤ 1000000 := by rw [etx] at tl; simp only [List.length_append] at tl ⊢; omega
    have hno : (10 : UInt8) ∉ loopsT ++ Lib.itoa l := by
      rw [List.mem_append]
      rintro (h | h)
      · exact absurd h (by decide)
      · exact itoa_no h0l (by decide) h
    have hsp : spl 10 (txtK xs (labs xs ms) xs.length ++ (loopsT ++ Lib.itoa l)) = linesR xs (labs xs ms) l := by
      rw [spl_rows hF.sgn hLR _ _ (Nat.le_refl _), spl_no hno]; rfl
    have k2 := call27 h3 (txtK xs (labs xs ms) xs.length ++ (loopsT ++ Lib.itoa l)) al
    have k3 := split_call h3 (txtK xs (labs xs ms) xs.length ++ (loopsT ++ Lib.itoa l)) 10 al
    rw [hsp] at k3
    have hll : (linesR xs (labs xs ms) l).length = xs.length + 1 := by simp [linesR]
    rw [hll] at k3
    rw [etx]
    repeat' (first | refine w_seq ?_ | refine w_seqN ?_ | refine w_blk ?_ | refine w_skip ?_ | refine w_ops ?_ | ((refine i_cond ?_); refine w_condF rfl ?_) | ((refine i_nil ?_); first | refine w_end4 rfl rfl rfl rfl ?_ | refine w_end5 rfl rfl rfl rfl rfl ?_ | refine w_end7 rfl rfl rfl rfl rfl rfl rfl ?_) | ((refine i_cons ?_); first | (refine k_call rfl k2 ?_; rintro v h3 ⟨rfl, rfl⟩) | (refine k_call rfl k3 ?_; rintro v h4 ⟨rfl, rfl⟩) | refine k_len rfl rfl ?_ | refine k_mv rfl ?_ | refine k_add rfl rfl (by omega) ?_ | refine k_rem rfl rfl (by omega) ?_ | refine k_conv rfl (by omega) ?_ | refine k_neqF rfl rfl (by omega) ?_ | refine k_ok rfl rfl ?_))
    have eq1 : ∀ z : Int, z = k → z = t % 70 + 1 := fun z hz => by omega
    have hpar := par_txt hV hok hren hlen (by
      have := txtK_len (xs := xs) hM' xs.length
      have := itoa_len (x := l) (by omega)
      unfold txt
      simp only [List.length_append, List.length_cons, List.length_nil, loopsT]
      omega)
    have eA : Ext h3 (h3 ++ [SB (linesR xs (labs xs ms) l)]) := ⟨_, rfl⟩
    have hu : IsSl (h3 ++ [SB (linesR xs (labs xs ms) l)]) (.slc (h3.length + 0) 0 (xs.length + 1) (some (xs.length + 1))) 1 (xs.length + 1) ((linesR xs (labs xs ms) l).map tb) := by
      refine .inr ⟨h3.length + 0, 0, some (xs.length + 1), SB (linesR xs (labs xs ms) l), rfl, by rw [get_app]; rfl, rfl, fun h => by omega, fun _ => ⟨_, true, rfl, ?_⟩⟩
      unfold cut
      simp only [ESz.one_n]
      rw [if_pos (by simp [hll])]
      simp only [List.drop_zero, Option.some.injEq]
      exact List.take_of_length_le (by simp [hll])
    have hRg : ∀ g, g < 4 * xs.length → (0 ≤ (labs xs ms).getD g 0 ∧ (labs xs ms).getD g 0 ≤ 128) ∧ (0 ≤ k * (labs xs ms).getD g 0 ∧ k * (labs xs ms).getD g 0 ≤ 8960) ∧ (renL k q (labs xs ms)).getD g 0 = 9999 - k * (labs xs ms).getD g 0 - q := fun g hg => by
      have a1 := labs_range hF (g := g) (by omega)
      have a2 := ren_mul hF hk70 hq (g := g) (by omega)
      have hll2 : (labs xs ms).length = ms.length := lbK_len _ _ _
      exact ⟨by omega, by omega, renL_at (by omega)⟩
    have eout : outR xs (renL k q (labs xs ms)) l 0 = [] := by unfold outR; rw [if_pos (by omega)]; rfl
    rw [← hk]
    refine w_loop (I10c (h3 ++ [SB (linesR xs (labs xs ms) l)]) _ (.slc (h3.length + 0) 0 (xs.length + 1) (some (xs.length + 1))) k q l xs (renL k q (labs xs ms))) (cntV (xs.length + 1) 39) (R10c (h3 ++ [SB (linesR xs (labs xs ms) l)]) _ l xs (renL k q (labs xs ms))) ⟨Ext.refl _, 0, by omega, by rw [eout]; rfl⟩ (fun E h hI => round10c _ _ _ k q l xs (labs xs ms) (renL k q (labs xs ms)) hF.sgn hn ⟨h0l, h64⟩ hLR hren hM' hRg hq hu E h hI) ?_
    rintro ex E' h5 ⟨e5, rfl, a, b, c, d, e, f, rfl⟩
    have k4 := parse_ok (h := h5) hpar
    rw [show ((l.toNat : Nat) : Int) = l from Int.toNat_of_nonneg hF.l0] at k4
    have e6 : Ext h5 (h5 ++ [EX xs, EX ms]) := ⟨_, rfl⟩
    repeat' (first | refine w_seq ?_ | refine w_seqN ?_ | refine w_blkX ?_ | refine w_ops ?_ | ((refine i_nil ?_); refine w_end3 rfl rfl rfl ?_) | ((refine i_cons ?_); first | (refine k_call rfl k4 ?_; rintro v h6 ⟨rfl, rfl⟩) | (refine k_newst3 rfl ?_; intro h7 e7 b7) | refine k_want rfl ?_ | refine k_mv rfl ?_ | refine k_eqlT rfl rfl (by omega) ?_ | refine k_ok rfl rfl ?_))
    have e37 := ((eA.trans e5).trans e6).trans e7
    have b8 := b3.ext e37
    have i1 : IsInts h7 (.slc (h5.length + 0) 0 xs.length (some xs.length)) xs := IsSl.ext (exL (h0 := h5) (k := 0) rfl rfl) e7
    have i2 : IsInts h7 (.slc (h5.length + 1) 0 ms.length (some ms.length)) ms := IsSl.ext (exL (h0 := h5) (k := 1) rfl rfl) e7
    have e17 := e13.trans e37
    have k5 := call21 h7 _ _ s m l xs ms i1 i2 (IsSl.ext hx e17) (IsSl.ext hs e17) (by omega) (by omega)
    repeat' (first | refine w_seqN ?_ | refine w_ret ?_ | ((refine i_nil ?_); refine w_end1 rfl ?_) | ((refine i_cons ?_); first | refine k_ldA rfl b7 rfl ?_ | refine k_ldA rfl b8 rfl ?_ | (refine k_call rfl k5 ?_; rintro v h6 ⟨rfl, e6⟩) | refine k_want rfl ?_ | refine k_mv rfl ?_ | refine k_pickT rfl rfl ?_))
    exact ⟨.inr rfl, rfl⟩
  · repeat' (first | refine w_seq ?_ | refine w_seqN ?_ | refine w_seqR ?_ | refine w_ret ?_ | refine w_ops ?_ | ((refine i_cond ?_); refine w_condT rfl ?_) | ((refine i_nil ?_); first | refine w_end1 rfl ?_ | refine w_end5 rfl rfl rfl rfl rfl ?_) | ((refine i_cons ?_); first | refine k_mv rfl ?_ | refine k_neqT rfl rfl (by omega) ?_ | refine k_ok rfl rfl ?_))
    exact ⟨.inr rfl, rfl⟩
end Go.Proofs.YtehnalbdfnmphaaDoor
