/- The reference's collect, 80: the polynomial of the sums. -/
import Derived.Test.YtofknpknogfijaaGreatDoorEX5
namespace Go.Proofs.YtofknpknogfijaaGreatDoor
open Go.Ab
set_option linter.unusedVariables false
set_option linter.unusedSimpArgs false
set_option maxRecDepth 20000
set_option maxHeartbeats 4000000
attribute [local irreducible] wOps wA wSeq wBlk wRound wRoundI wOpsD wOpsS
set_option linter.unusedSectionVars false
variable [HB]

def okT (u : Tm) : Prop := u.2 ≠ 0 → u.2.natAbs ≤ cM ∧ u.1.natAbs ≤ eM
abbrev nzT (u : Tm) : Bool := decide (u.2 ≠ 0)
noncomputable def colP (M : List Tm) : Pol := open Classical in if ∀ u ∈ M, okT u then ⟨false, M.filter nzT⟩ else bigP
theorem call113t (h0 : Heap) (x : Int) (hx : x.natAbs ≤ cM) : ∃ r h', Cal FT HKt 113 [nf x] h0 r h' ∧ Ext h0 h' ∧ r = .tup [.sc (.int .i64 x), .sc (.bool true)] := by
  obtain ⟨r, h', a, b, n, ok, rfl, c, d⟩ := call113 h0 (x / 1125899906842624) (x % 1125899906842624) (by omega)
  rw [show x / 1125899906842624 * 1125899906842624 + x % 1125899906842624 = x by omega] at c d
  have := c.2 hx
  subst this
  exact ⟨_, h', a, b, by rw [d rfl]⟩
theorem call113f (h0 : Heap) (x : Int) (hx : ¬ x.natAbs ≤ cM) : ∃ r h', Cal FT HKt 113 [nf x] h0 r h' ∧ Ext h0 h' ∧ ∃ n, r = .tup [.sc (.int .i64 n), .sc (.bool false)] := by
  obtain ⟨r, h', a, b, n, ok, rfl, c, d⟩ := call113 h0 (x / 1125899906842624) (x % 1125899906842624) (by omega)
  rw [show x / 1125899906842624 * 1125899906842624 + x % 1125899906842624 = x by omega] at c d
  cases ok with
  | true => exact absurd (c.1 rfl) hx
  | false => exact ⟨_, h', a, b, n, rfl⟩
def I82 (h0 : Heap) (q4 q5 : Nat) (sx st : SV) (M : List Tm) (k : Nat) (E : Env) (h : Heap) : Prop := ∃ (i : Nat) (s : SV), i ≤ M.length ∧ k = M.length - i ∧ (∀ u ∈ M.take i, okT u) ∧ St27 h0 h q4 q5 false s ((M.take i).filter nzT) ∧
  E.keep [0, 1, 4, 5, 6] = [(0, some (.sc sx)), (1, some (.sc st)), (4, some (.sc (.ptr q4 0))), (5, some (.sc (.ptr q5 0))), (6, some (.sc (.int .i64 (i : Nat))))]
def R82 (h0 : Heap) (q4 q5 : Nat) (M : List Tm) (ex : Ex) (E : Env) (h : Heap) : Prop :=
  (ex = .ex 0 ∧ ∃ s a b c d, (∀ u ∈ M, okT u) ∧ St27 h0 h q4 q5 false s (M.filter nzT) ∧ E = [(0, a), (1, b), (4, some (.sc (.ptr q4 0))), (5, some (.sc (.ptr q5 0))), (6, c), (12, d)]) ∨
  (ex = .rt ∧ ¬ (∀ u ∈ M, okT u) ∧ Ext h0 h ∧ Cel h q4 .nilS (.bool true) ∧ E = [(4, some (.sc (.ptr q4 0)))])
theorem round82 (h0 : Heap) (q4 q5 : Nat) (sx st : SV) (M : List Tm) (hx : IsInts h0 sx (M.map (·.1))) (ht : IsD h0 st (M.map wp)) (hn : M.length ≤ 1000000) (k : Nat) (E : Env) (h : Heap) (hI : I82 h0 q4 q5 sx st M k E h) :
    wA FT HKt b82L0 (E.keep [0, 1, 4, 5, 6]) h (wRoundI (I82 h0 q4 q5 sx st M) k (R82 h0 q4 q5 M)) := by
  obtain ⟨i, s, hi, rfl, hall, sg, hE⟩ := hI
  rw [hE]
  have ls := IsSl.len hx
  rw [List.length_map] at ls
  by_cases hlt : i < M.length
  · obtain ⟨u, hu⟩ : ∃ u, M[i]? = some u := ⟨_, List.getElem?_eq_getElem hlt⟩
    have hum : u ∈ M := List.mem_of_getElem? hu
    obtain ⟨id, off, cap, rfl, rd0⟩ := IsInts.at hx (i := i) (x := u.1) (by rw [List.getElem?_map, hu]; rfl)
    obtain ⟨id2, off2, cap2, rfl, rd20⟩ := IsD.at ht (i := i) (p := wp u) (by rw [List.getElem?_map, hu]; rfl)
    have rd := readN_ext sg.e rd0
    have rd2 := readN_ext sg.e rd20
    rw [List.length_map] at ls
    rw [List.length_map, List.length_map]
    have c4 := sg.c4
    have c5 := sg.c5
    have l := sg.l
    have tk : M.take (i + 1) = M.take i ++ [u] := by rw [List.take_add_one, hu]; rfl
    have step : okT u → ∀ x ∈ M.take (i + 1), okT x := fun h x hx => by
      rw [tk] at hx
      rcases List.mem_append.1 hx with hx | hx
      · exact hall x hx
      · rw [List.mem_singleton.1 hx]; exact h
    by_cases hz : u.2 = 0
    · have hq : (u.2 / 1125899906842624 == 0 && u.2 % 1125899906842624 == 0) = true := by rw [hz]; rfl
      have fl : (M.take (i + 1)).filter nzT = (M.take i).filter nzT := by rw [tk, List.filter_append]; simp [nzT, hz]
      repeat' (first | refine w_seq ?_ | refine w_seqN ?_ | refine w_seqX ?_ | refine w_blk ?_ | refine w_blkX ?_ | refine w_skip ?_ | refine w_exit ?_ | refine w_ops ?_ | ((refine i_cond ?_); refine w_condT rfl ?_) | ((refine i_nil ?_); first | refine w_end5 rfl rfl rfl rfl rfl ?_ | refine w_end6 rfl rfl rfl rfl rfl rfl ?_) | ((refine i_cons ?_); first | refine k_len rfl ls ?_ | refine k_idxA (esz := 2) rfl rfl (by omega) ?_ | refine k_ldD rfl rd2 ?_ | refine k_bld rfl rfl ?_ | (refine k_seq2 rfl rfl ?_; rw [if_neg (by decide), hq]) | refine k_mv rfl ?_ | refine k_add rfl rfl (by omega) ?_ | refine k_lssT rfl rfl (by omega) ?_))
      exact w_roundIN (j := M.length - (i + 1)) (by omega) ⟨i + 1, s, by omega, rfl, step fun h => absurd hz h, by rw [fl]; exact sg, rfl⟩
    have hq : (u.2 / 1125899906842624 == 0 && u.2 % 1125899906842624 == 0) = false := by
      rw [Bool.and_eq_false_iff]
      by_cases h1 : u.2 / 1125899906842624 = 0
      · right; simp only [beq_eq_false_iff_ne]; omega
      · left; simpa using h1
    by_cases a1 : u.2.natAbs ≤ cM
    · have k96 := fun H => call113t H u.2 a1
      by_cases a2 : u.1.natAbs ≤ eM
      · have fl : (M.take (i + 1)).filter nzT = (M.take i).filter nzT ++ [(u.1, u.2)] := by rw [tk, List.filter_append]; simp [nzT, hz]
        have hfl : ((M.take i).filter nzT).length ≤ i := Nat.le_trans (List.length_filter_le _ _) (by rw [List.length_take]; omega)
        simp only [eM] at a2
        repeat' (first | refine w_seq ?_ | refine w_seqN ?_ | refine w_blk ?_ | refine w_blkN ?_ | refine w_skip ?_ | refine w_ops ?_ | refine w_opsD ?_ | refine d_one ?_ | refine d_nil ?_ | ((refine i_cond ?_); first | refine w_condT rfl ?_ | refine w_condF rfl ?_) | ((refine i_nil ?_); first | refine d_same ?_ | refine d_ord ?_ | refine d_ext (by assumption) ?_ | refine w_end5 rfl rfl rfl rfl rfl ?_ | refine w_end6 rfl rfl rfl rfl rfl rfl ?_ | refine w_end7 rfl rfl rfl rfl rfl rfl rfl ?_) | ((refine i_cons ?_); first | refine k_len rfl ls ?_ | refine k_idxA (esz := 2) rfl rfl (by omega) ?_ | refine k_idxA (esz := 1) rfl rfl (by omega) ?_ | refine k_ldD rfl rd2 ?_ | refine k_ld rfl rdb ?_ | refine k_bld rfl rfl ?_ | (refine k_seq2 rfl rfl ?_; rw [if_neg (by decide), hq]) | (refine k_call rfl (k96 h) ?_; rintro r h7 ⟨e7, rfl⟩; have st7 := sg.ext e7; have c57 := st7.c5; have rdb := readN_ext e7 rd) | refine k_fldA rfl ?_ | refine k_ldC0 rfl c57 ?_ | (refine k_bslD rfl ?_; intro h8 e8 src8; have st8 := st7.ext e8) | (refine k_appD1 st8.e st8.o rfl rfl src8 (by rw [tms_len]; simp only [bigN]; omega) ?_; intro s' h2 o2 e2 f2 l2; have d5 := st8.c5.fram f2 (st8.o.cel st8.c5); have d4 := st8.c4.fram f2 (st8.o.cel st8.c4)) | (refine k_stC0 rfl rfl d5 ?_; intro h3 w3) | refine k_want rfl ?_ | refine k_mv rfl ?_ | refine k_pickF rfl rfl ?_ | refine k_notT rfl ?_ | refine k_add rfl rfl (by omega) ?_ | refine k_lssT rfl rfl (by omega) ?_ | refine k_lssF rfl rfl (by omega) ?_ | refine k_gtrF rfl rfl (by omega) ?_ | refine k_ok rfl rfl ?_))
        refine w_roundIN (j := M.length - (i + 1)) (by omega) ⟨i + 1, s', by omega, rfl, step fun _ => ⟨a1, a2⟩, ⟨w3.ext e2 (by omega), w3.keep d4 (by omega), w3.cel, ?_, l⟩, rfl⟩
        have := o2.wrC w3
        rw [fl]
        simpa [tms, tmP] using this
      · have bad : ¬ ∀ u ∈ M, okT u := fun h => a2 (h u hum hz).2
        simp only [eM] at a2
        by_cases a3 : u.1 < -1048576
        · repeat' (first | refine w_seq ?_ | refine w_seqN ?_ | refine w_seqR ?_ | refine w_blk ?_ | refine w_blkR ?_ | refine w_skip ?_ | refine w_ret ?_ | refine w_ops ?_ | ((refine i_cond ?_); first | refine w_condT rfl ?_ | refine w_condF rfl ?_) | ((refine i_nil ?_); first | refine w_end1 rfl ?_ | refine w_end6 rfl rfl rfl rfl rfl rfl ?_ | refine w_end7 rfl rfl rfl rfl rfl rfl rfl ?_) | ((refine i_cons ?_); first | refine k_len rfl ls ?_ | refine k_idxA (esz := 2) rfl rfl (by omega) ?_ | refine k_idxA (esz := 1) rfl rfl (by omega) ?_ | refine k_ldD rfl rd2 ?_ | refine k_ld rfl rdb ?_ | refine k_bld rfl rfl ?_ | (refine k_seq2 rfl rfl ?_; rw [if_neg (by decide), hq]) | (refine k_call rfl (k96 h) ?_; rintro r h7 ⟨e7, rfl⟩; have st7 := sg.ext e7; have c47 := st7.c4; have rdb := readN_ext e7 rd) | (refine k_stC rfl rfl c47 ?_; intro h3 w3) | refine k_skip rfl ?_ | refine k_want rfl ?_ | refine k_mv rfl ?_ | refine k_pickT rfl rfl ?_ | refine k_pickF rfl rfl ?_ | refine k_notT rfl ?_ | refine k_lssT rfl rfl (by omega) ?_ | refine k_ok rfl rfl ?_))
          exact w_roundIR (.inr ⟨rfl, bad, w3.ext st7.e l.1, w3.cel, rfl⟩)
        · repeat' (first | refine w_seq ?_ | refine w_seqN ?_ | refine w_seqR ?_ | refine w_blk ?_ | refine w_blkR ?_ | refine w_skip ?_ | refine w_ret ?_ | refine w_ops ?_ | ((refine i_cond ?_); first | refine w_condT rfl ?_ | refine w_condF rfl ?_) | ((refine i_nil ?_); first | refine w_end1 rfl ?_ | refine w_end6 rfl rfl rfl rfl rfl rfl ?_ | refine w_end7 rfl rfl rfl rfl rfl rfl rfl ?_) | ((refine i_cons ?_); first | refine k_len rfl ls ?_ | refine k_idxA (esz := 2) rfl rfl (by omega) ?_ | refine k_idxA (esz := 1) rfl rfl (by omega) ?_ | refine k_ldD rfl rd2 ?_ | refine k_ld rfl rdb ?_ | refine k_bld rfl rfl ?_ | (refine k_seq2 rfl rfl ?_; rw [if_neg (by decide), hq]) | (refine k_call rfl (k96 h) ?_; rintro r h7 ⟨e7, rfl⟩; have st7 := sg.ext e7; have c47 := st7.c4; have rdb := readN_ext e7 rd) | (refine k_stC rfl rfl c47 ?_; intro h3 w3) | refine k_want rfl ?_ | refine k_mv rfl ?_ | refine k_pickF rfl rfl ?_ | refine k_notT rfl ?_ | refine k_lssT rfl rfl (by omega) ?_ | refine k_lssF rfl rfl (by omega) ?_ | refine k_gtrT rfl rfl (by omega) ?_ | refine k_ok rfl rfl ?_))
          exact w_roundIR (.inr ⟨rfl, bad, w3.ext st7.e l.1, w3.cel, rfl⟩)
    · have bad : ¬ ∀ u ∈ M, okT u := fun h => a1 (h u hum hz).1
      have k96 := fun H => call113f H u.2 a1
      repeat' (first | refine w_seq ?_ | refine w_seqN ?_ | refine w_seqR ?_ | refine w_blk ?_ | refine w_blkR ?_ | refine w_skip ?_ | refine w_ret ?_ | refine w_ops ?_ | ((refine i_cond ?_); first | refine w_condT rfl ?_ | refine w_condF rfl ?_) | ((refine i_nil ?_); first | refine w_end1 rfl ?_ | refine w_end6 rfl rfl rfl rfl rfl rfl ?_ | refine w_end7 rfl rfl rfl rfl rfl rfl rfl ?_) | ((refine i_cons ?_); first | refine k_len rfl ls ?_ | refine k_idxA (esz := 2) rfl rfl (by omega) ?_ | refine k_ldD rfl rd2 ?_ | refine k_bld rfl rfl ?_ | (refine k_seq2 rfl rfl ?_; rw [if_neg (by decide), hq]) | (refine k_call rfl (k96 h) ?_; rintro r h7 ⟨e7, n, rfl⟩; have st7 := sg.ext e7; have c47 := st7.c4) | (refine k_stC rfl rfl c47 ?_; intro h3 w3) | refine k_skip rfl ?_ | refine k_mv rfl ?_ | refine k_pickT rfl rfl ?_ | refine k_notF rfl ?_ | refine k_lssT rfl rfl (by omega) ?_ | refine k_ok rfl rfl ?_))
      exact w_roundIR (.inr ⟨rfl, bad, w3.ext st7.e l.1, w3.cel, rfl⟩)
  · have : M.take i = M := List.take_of_length_le (by omega)
    rw [this] at hall sg
    repeat' (first | refine w_seq ?_ | refine w_seqN ?_ | refine w_seqX ?_ | refine w_exit ?_ | refine w_ops ?_ | ((refine i_cond ?_); refine w_condF rfl ?_) | ((refine i_nil ?_); refine w_end6 rfl rfl rfl rfl rfl rfl ?_) | ((refine i_cons ?_); first | refine k_len rfl ls ?_ | refine k_mv rfl ?_ | refine k_lssF rfl rfl (by omega) ?_))
    exact w_roundIX (.inl ⟨rfl, s, _, _, _, _, hall, sg, rfl⟩)
/-- A polynomial of the reference whose terms are one's own. -/
def IsRfO (h0 h : Heap) (v : AV) (p : Pol) : Prop := ∃ s, v = .agg [s, .bool p.big] ∧ OwnD h0 h s (tms p.ts)
theorem call82o (h0 : Heap) (sx st : SV) (M : List Tm) (hx : IsInts h0 sx (M.map (·.1))) (ht : IsD h0 st (M.map wp)) (hn : M.length ≤ 1000000) :
    ∃ r h', Cal FT HKt 82 [.sc sx, .sc st] h0 r h' ∧ Ext h0 h' ∧ IsRfO h0 h' r (colP M) := by
  refine Cal.of (F := a82) rfl rfl rfl ?_
  repeat' (first | refine w_seq ?_ | refine w_seqN ?_ | refine w_blk ?_ | refine w_ops ?_ | ((refine i_nil ?_); first | refine w_end3 rfl rfl rfl ?_ | refine w_end4 rfl rfl rfl rfl ?_ | refine w_end5 rfl rfl rfl rfl rfl ?_) | ((refine i_cons ?_); first | (have z := e1; refine k_newC ?_; intro h2 e2 c2; have d1 := c1.ext e2; have m1 := c1.lt) | (refine k_newC ?_; intro h1 e1 c1) | refine k_mv rfl ?_))
  refine w_loopI (I82 h0 h0.length h1.length sx st M) M.length (R82 h0 h0.length h1.length M) ⟨0, .nilS, Nat.zero_le _, rfl, by simp, ⟨e1.trans e2, d1, c2, .inl ⟨rfl, rfl⟩, ⟨Nat.le_refl _, m1⟩⟩, rfl⟩ (round82 h0 h0.length h1.length sx st M hx ht hn) ?_
  rintro ex E' h3 (⟨rfl, s, _, _, _, _, hall, sg, rfl⟩ | ⟨rfl, hb, e3, c4, rfl⟩)
  · have c4 := sg.c4
    have e : colP M = ⟨false, M.filter nzT⟩ := by unfold colP; rw [if_pos hall]
    rw [e]
    repeat' (first | refine w_seq ?_ | refine w_seqN ?_ | refine w_blkX ?_ | refine w_ret ?_ | refine w_ops ?_ | ((refine i_nil ?_); refine w_end1 rfl ?_) | ((refine i_cons ?_); first | refine k_ldC rfl sg.c5 ?_ | (refine k_stC rfl rfl c4 ?_; intro h4 w4)))
    exact ⟨.inr rfl, oK_cell rfl w4.cel.read ⟨w4.ext sg.e (Nat.le_refl _), s, rfl, sg.o.wrC w4⟩⟩
  · have e : colP M = bigP := by unfold colP; rw [if_neg hb]
    rw [e]
    repeat' (first | refine w_seqR ?_ | refine w_blkR ?_)
    exact ⟨.inr rfl, oK_cell rfl c4.read ⟨e3, .nilS, rfl, .inl ⟨rfl, rfl⟩⟩⟩
theorem call82 (h0 : Heap) (sx st : SV) (M : List Tm) (hx : IsInts h0 sx (M.map (·.1))) (ht : IsD h0 st (M.map wp)) (hn : M.length ≤ 1000000) :
    ∃ r h', Cal FT HKt 82 [.sc sx, .sc st] h0 r h' ∧ Ext h0 h' ∧ IsRf h' r (colP M) := by
  obtain ⟨r, h', a, b, s, c, d⟩ := call82o h0 sx st M hx ht hn
  exact ⟨r, h', a, b, s, c, d.is⟩
end Go.Proofs.YtofknpknogfijaaGreatDoor
