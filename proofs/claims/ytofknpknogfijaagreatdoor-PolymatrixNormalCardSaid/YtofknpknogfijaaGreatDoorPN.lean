/- High, Of, Equal: contracts. -/
import Derived.Test.YtofknpknogfijaaGreatDoorPM
namespace Go.Proofs.YtofknpknogfijaaGreatDoor
open Go.Ab
set_option linter.unusedVariables false
set_option linter.unusedSimpArgs false
set_option maxRecDepth 20000
set_option maxHeartbeats 4000000
attribute [local irreducible] wOps wA wSeq wBlk wRound wRoundI wOpsD wOpsS
set_option linter.unusedSectionVars false
variable [HB]

/-! ### Of -/
/-- The terms of the first i coefficients; none if one is too great. -/
def ofN (low : Int) (xs : List Int) : Nat → Option (List Tm)
  | 0 => some []
  | i + 1 => (ofN low xs i).bind fun r => if xs.getD i 0 = 0 then some r else if (xs.getD i 0).natAbs ≤ cM ∧ low ≤ eM ∧ (low + i).natAbs ≤ eM then some (r ++ [(low + i, xs.getD i 0)]) else none
def ofP (low : Int) (xs : List Int) : Pol := match ofN low xs xs.length with
  | some r => ⟨false, r⟩
  | none => bigP
theorem ofN_ok {low : Int} {xs : List Int} : ∀ {i : Nat} {r : List Tm}, ofN low xs i = some r → Can r ∧ (∀ t ∈ r, low ≤ t.1 ∧ t.1 < low + i ∧ t.2.natAbs ≤ cM ∧ t.1.natAbs ≤ eM) ∧ ∀ e, cf r e = if low ≤ e ∧ e < low + i then xs.getD (e - low).toNat 0 else 0
  | 0, r, h => by
    simp [ofN] at h; subst h
    refine ⟨.nil, by simp, fun e => ?_⟩
    rw [if_neg (by omega)]; rfl
  | i + 1, r', h => by
    rw [ofN, Option.bind_eq_some_iff] at h
    obtain ⟨r, h1, h⟩ := h
    obtain ⟨a, b, c⟩ := ofN_ok h1
    split at h
    · rename_i hz
      cases h
      refine ⟨a, fun t ht => ?_, fun e => ?_⟩
      · have := b t ht; omega
      · rw [c e]
        by_cases he : e = low + i
        · subst he
          rw [if_neg (by omega), if_pos (by omega), show (low + (i : Int) - low).toNat = i by omega, hz]
        · by_cases h2 : low ≤ e ∧ e < low + i
          · rw [if_pos h2, if_pos (by omega)]
          · rw [if_neg h2, if_neg (by omega)]
    · rename_i hz
      split at h
      · rename_i hc
        cases h
        refine ⟨⟨List.pairwise_append.2 ⟨a.asc, by simp, fun u hu v hv => ?_⟩, fun t ht => ?_⟩, fun t ht => ?_, fun e => ?_⟩
        · simp at hv; subst hv
          exact (b u hu).2.1
        · rcases List.mem_append.1 ht with ht | ht
          · exact a.nz t ht
          · simp at ht; subst ht; exact hz
        · rcases List.mem_append.1 ht with ht | ht
          · have := b t ht; omega
          · rw [List.mem_singleton] at ht; subst ht; simp only; omega
        · rw [cf_app, cf_cons, c e]
          simp only
          rw [show cf [] e = 0 from rfl]
          by_cases he : e = low + i
          · subst he
            rw [if_neg (by omega), dl_self, if_pos (by omega), show (low + (i : Int) - low).toNat = i by omega]; omega
          · rw [dl_ne (by omega)]
            by_cases h2 : low ≤ e ∧ e < low + i
            · rw [if_pos h2, if_pos (by omega)]; omega
            · rw [if_neg h2, if_neg (by omega)]; omega
      · cases h
theorem ofN_len {low : Int} {xs : List Int} {i : Nat} {r : List Tm} (h : ofN low xs i = some r) : r.length ≤ i := by
  obtain ⟨a, b, _⟩ := ofN_ok h
  exact can_len a fun t ht => ⟨(b t ht).1, (b t ht).2.1⟩
theorem ofP_ok (low : Int) (xs : List Int) : Pok (ofP low xs) := by
  unfold ofP
  cases h : ofN low xs xs.length with
  | none => exact bigP_ok
  | some r =>
    obtain ⟨a, b, _⟩ := ofN_ok h
    exact ⟨by simp, a, fun t ht => (b t ht).2.2.1, fun t ht => (b t ht).2.2.2⟩
theorem ofN_none {low : Int} {xs : List Int} : ∀ {i j : Nat}, i ≤ j → ofN low xs i = none → ofN low xs j = none
  | i, 0, h, hn => by obtain rfl : i = 0 := by omega
                      exact hn
  | i, j + 1, h, hn => by
    by_cases e : i = j + 1
    · rw [← e]; exact hn
    · rw [ofN, ofN_none (i := i) (by omega) hn]; rfl
/-- While Of runs. -/
structure St20 (h0 h : Heap) (q4 q5 : Nat) (a b s : SV) (r : List Tm) : Prop where
  e : Ext h0 h
  c4 : Cel h q4 a b
  c5 : Cel h q5 (.bool false) s
  o : OwnD h0 h s (tms r)
  l4 : h0.length ≤ q4
  l5 : h0.length ≤ q5
  ne : q4 ≠ q5
def I20 (h0 : Heap) (q4 q5 : Nat) (low : Int) (c : SV) (xs : List Int) (E : Env) (h : Heap) : Prop := ∃ (i : Nat) (r : List Tm) (s : SV), i ≤ xs.length ∧ ofN low xs i = some r ∧ St20 h0 h q4 q5 (.bool false) .nilS s r ∧
  E.keep [0, 4, 5, 8, 9, 10] = [(0, some (.sc (.int .i64 low))), (4, some (.sc (.ptr q4 0))), (5, some (.sc (.ptr q5 0))), (8, some (.sc c)), (9, some (.sc (.int .i64 (xs.length : Nat)))), (10, some (.sc (.int .i64 (i : Nat))))]
def R20 (h0 : Heap) (q4 q5 : Nat) (low : Int) (xs : List Int) (ex : Ex) (E : Env) (h : Heap) : Prop :=
  (ex = .ex 0 ∧ ∃ r s a b c d e, ofN low xs xs.length = some r ∧ St20 h0 h q4 q5 (.bool false) .nilS s r ∧ E = [(0, a), (4, some (.sc (.ptr q4 0))), (5, some (.sc (.ptr q5 0))), (8, b), (9, c), (10, d), (11, e)]) ∨
  (ex = .rt ∧ ∃ (r : List Tm) (s : SV), ofN low xs xs.length = none ∧ St20 h0 h q4 q5 (.bool true) .nilS s r ∧ E = [(4, some (.sc (.ptr q4 0)))])
def cK (ks : List Nat) (n t : Nat) (E : Env) (_ : Heap) : Nat := match (E.keep ks).get t with
  | some (.sc (.int _ i)) => n - i.toNat
  | _ => 0
theorem round20 (h0 : Heap) (q4 q5 : Nat) (low : Int) (hlow : -9223372036854775808 ≤ low ∧ low ≤ 9223372036854775807) (c : SV) (xs : List Int) (hn : xs.length ≤ 1000000) (hc : IsInts h0 c xs) (hw : ∀ x ∈ xs, -9223372036854775808 ≤ x ∧ x ≤ 9223372036854775807) (E : Env) (h : Heap) (hI : I20 h0 q4 q5 low c xs E h) :
    wA FT HKt b20L0 (E.keep [0, 4, 5, 8, 9, 10]) h (wRound (I20 h0 q4 q5 low c xs) (cK [0, 4, 5, 8, 9, 10] xs.length 10) (cK [0, 4, 5, 8, 9, 10] xs.length 10 E h) (R20 h0 q4 q5 low xs)) := by
  obtain ⟨i, r, s, hi, hr, st, hE⟩ := hI
  have hm : cK [0, 4, 5, 8, 9, 10] xs.length 10 E h = xs.length - i := by unfold cK; rw [hE]; rfl
  rw [hm, hE]
  by_cases hlt : i < xs.length
  · obtain ⟨x, hx⟩ : ∃ x, xs[i]? = some x := ⟨_, List.getElem?_eq_getElem hlt⟩
    have hx2 : xs.getD i 0 = x := by rw [List.getD_eq_getElem?_getD, hx]; rfl
    obtain ⟨id, off, cap, rfl, rd0⟩ := IsInts.at hc hx
    have rd := readN_ext st.e rd0
    have hxw := hw x (List.mem_of_getElem? hx)
    have k35 := fun H v l hl => call50 H v l hl
    by_cases hz : x = 0
    · have en : ofN low xs (i + 1) = some r := by rw [ofN, hr, Option.bind_some, hx2, if_pos hz]
      subst hz
      repeat' (first | refine w_seq ?_ | refine w_seqN ?_ | refine w_seqX ?_ | refine w_blk ?_ | refine w_blkX ?_ | refine w_skip ?_ | refine w_exit ?_ | refine w_ops ?_ | ((refine i_cond ?_); refine w_condT rfl ?_) | ((refine i_nil ?_); first | refine w_end6 rfl rfl rfl rfl rfl rfl ?_ | refine w_end7 rfl rfl rfl rfl rfl rfl rfl ?_ | refine w_end8 rfl rfl rfl rfl rfl rfl rfl rfl ?_ | refine w_end9 rfl rfl rfl rfl rfl rfl rfl rfl rfl ?_) | ((refine i_cons ?_); first | refine k_idxA (esz := 1) rfl rfl (by omega) ?_ | refine k_ld rfl rd ?_ | refine k_mv rfl ?_ | refine k_add rfl rfl (by omega) ?_ | refine k_lssT rfl rfl (by omega) ?_ | refine k_eqlT rfl rfl (by omega) ?_))
      exact w_roundN ⟨i + 1, r, s, by omega, en, st, rfl⟩ (by simp [cK, Env.keep, Env.get]; omega)
    · have en : ofN low xs (i + 1) = if x.natAbs ≤ cM ∧ low ≤ eM ∧ (low + i).natAbs ≤ eM then some (r ++ [(low + i, x)]) else none := by rw [ofN, hr, Option.bind_some, hx2, if_neg hz]
      have k1 := fun H => call50 H x 1125899906842624 (by omega)
      have k2 := fun H => call50 H (low + i) 1048576 (by omega)
      rw [show (1125899906842624 : Int).toNat = cM by rfl] at k1
      rw [show (1048576 : Int).toNat = eM by rfl] at k2
      have bad : ofN low xs (i + 1) = none → ∀ h2, Wr h h2 q4 (.bool true) .nilS → ∃ (r : List Tm) (s : SV), ofN low xs xs.length = none ∧ St20 h0 h2 q4 q5 (.bool true) .nilS s r := fun hn h2 w => ⟨r, s, ofN_none (by omega) hn, w.ext st.e st.l4, w.cel, w.keep st.c5 (Ne.symm st.ne), st.o.wrC w, st.l4, st.l5, st.ne⟩
      have c4 := st.c4
      have c5 := st.c5
      by_cases a1 : x.natAbs ≤ cM
      · rw [decide_eq_true a1] at k1
        by_cases a2 : low ≤ 1048576
        · by_cases a3 : (low + i).natAbs ≤ eM
          · rw [decide_eq_true a3] at k2
            rw [if_pos ⟨a1, a2, a3⟩] at en
            have hrl := ofN_len hr
            have rdC : readN h q5 (0 + 1) 1 = some [s] := (rd1 c5.read).2
            repeat' (first | refine w_seq ?_ | refine w_seqN ?_ | refine w_blk ?_ | refine w_blkN ?_ | refine w_skip ?_ | refine w_ops ?_ | ((refine i_cond ?_); first | refine w_condT rfl ?_ | refine w_condF rfl ?_) | ((refine i_nil ?_); first | refine w_end6 rfl rfl rfl rfl rfl rfl ?_ | refine w_end7 rfl rfl rfl rfl rfl rfl rfl ?_ | refine w_end8 rfl rfl rfl rfl rfl rfl rfl rfl ?_ | refine w_end9 rfl rfl rfl rfl rfl rfl rfl rfl rfl ?_) | ((refine i_cons ?_); first | refine k_idxA (esz := 1) rfl rfl (by omega) ?_ | refine k_ld rfl rd ?_ | (refine k_call rfl (k1 _) ?_; rintro v _ ⟨rfl, rfl⟩) | (refine k_call rfl (k2 _) ?_; rintro v _ ⟨rfl, rfl⟩) | refine k_fldA rfl ?_ | (refine k_ldC1 rfl c5 ?_) | (refine k_bld rfl rfl ?_) | (refine k_pushD st.e st.o rfl rfl (by rw [tms_len]; simp only [bigN]; omega) ?_; intro s' h2 o2 e2 f2 l2; have d5 := c5.fram f2 (st.o.cel c5); have d4 := c4.fram f2 (st.o.cel c4)) | (refine k_stC1 rfl rfl d5 ?_; intro h3 w3) | refine k_want rfl ?_ | refine k_mv rfl ?_ | refine k_pickF rfl rfl ?_ | refine k_notT rfl ?_ | refine k_add rfl rfl (by omega) ?_ | refine k_lssT rfl rfl (by omega) ?_ | refine k_gtrF rfl rfl (by omega) ?_ | refine k_eqlF rfl rfl (by omega) ?_))
            refine w_roundN ⟨i + 1, _, s', by omega, en, ⟨w3.ext e2 st.l5, w3.keep d4 st.ne, w3.cel, ?_, st.l4, st.l5, st.ne⟩, rfl⟩ (by simp [cK, Env.keep, Env.get]; omega)
            have := o2.wrC w3
            simpa [tms, tmP] using this
          · rw [decide_eq_false a3] at k2
            rw [if_neg fun h => a3 h.2.2] at en
            repeat' (first | refine w_seq ?_ | refine w_seqN ?_ | refine w_seqR ?_ | refine w_blk ?_ | refine w_blkR ?_ | refine w_skip ?_ | refine w_ret ?_ | refine w_ops ?_ | ((refine i_cond ?_); first | refine w_condT rfl ?_ | refine w_condF rfl ?_) | ((refine i_nil ?_); first | refine w_end1 rfl ?_ | refine w_end7 rfl rfl rfl rfl rfl rfl rfl ?_ | refine w_end8 rfl rfl rfl rfl rfl rfl rfl rfl ?_ | refine w_end9 rfl rfl rfl rfl rfl rfl rfl rfl rfl ?_) | ((refine i_cons ?_); first | refine k_idxA (esz := 1) rfl rfl (by omega) ?_ | refine k_ld rfl rd ?_ | (refine k_call rfl (k1 _) ?_; rintro v _ ⟨rfl, rfl⟩) | (refine k_call rfl (k2 _) ?_; rintro v _ ⟨rfl, rfl⟩) | (refine k_bld rfl rfl ?_) | (refine k_stC rfl rfl c4 ?_; intro h3 w3) | refine k_want rfl ?_ | refine k_mv rfl ?_ | refine k_pickF rfl rfl ?_ | refine k_notT rfl ?_ | refine k_notF rfl ?_ | refine k_add rfl rfl (by omega) ?_ | refine k_lssT rfl rfl (by omega) ?_ | refine k_gtrF rfl rfl (by omega) ?_ | refine k_eqlF rfl rfl (by omega) ?_))
            obtain ⟨r', s', b1, b2⟩ := bad en h3 w3
            exact w_roundR (.inr ⟨rfl, r', s', b1, b2, rfl⟩)
        · rw [if_neg fun h => a2 h.2.1] at en
          repeat' (first | refine w_seq ?_ | refine w_seqN ?_ | refine w_seqR ?_ | refine w_blk ?_ | refine w_blkR ?_ | refine w_skip ?_ | refine w_ret ?_ | refine w_ops ?_ | ((refine i_cond ?_); first | refine w_condT rfl ?_ | refine w_condF rfl ?_) | ((refine i_nil ?_); first | refine w_end1 rfl ?_ | refine w_end7 rfl rfl rfl rfl rfl rfl rfl ?_ | refine w_end8 rfl rfl rfl rfl rfl rfl rfl rfl ?_ | refine w_end9 rfl rfl rfl rfl rfl rfl rfl rfl rfl ?_) | ((refine i_cons ?_); first | refine k_idxA (esz := 1) rfl rfl (by omega) ?_ | refine k_ld rfl rd ?_ | (refine k_call rfl (k1 _) ?_; rintro v _ ⟨rfl, rfl⟩) | (refine k_bld rfl rfl ?_) | (refine k_stC rfl rfl c4 ?_; intro h3 w3) | refine k_skip rfl ?_ | refine k_want rfl ?_ | refine k_mv rfl ?_ | refine k_pickT rfl rfl ?_ | refine k_pickF rfl rfl ?_ | refine k_notT rfl ?_ | refine k_lssT rfl rfl (by omega) ?_ | refine k_gtrT rfl rfl (by omega) ?_ | refine k_eqlF rfl rfl (by omega) ?_))
          obtain ⟨r', s', b1, b2⟩ := bad en h3 w3
          exact w_roundR (.inr ⟨rfl, r', s', b1, b2, rfl⟩)
      · rw [decide_eq_false a1] at k1
        rw [if_neg fun h => a1 h.1] at en
        repeat' (first | refine w_seq ?_ | refine w_seqN ?_ | refine w_seqR ?_ | refine w_blk ?_ | refine w_blkR ?_ | refine w_skip ?_ | refine w_ret ?_ | refine w_ops ?_ | ((refine i_cond ?_); first | refine w_condT rfl ?_ | refine w_condF rfl ?_) | ((refine i_nil ?_); first | refine w_end1 rfl ?_ | refine w_end7 rfl rfl rfl rfl rfl rfl rfl ?_ | refine w_end8 rfl rfl rfl rfl rfl rfl rfl rfl ?_ | refine w_end9 rfl rfl rfl rfl rfl rfl rfl rfl rfl ?_) | ((refine i_cons ?_); first | refine k_idxA (esz := 1) rfl rfl (by omega) ?_ | refine k_ld rfl rd ?_ | (refine k_call rfl (k1 _) ?_; rintro v _ ⟨rfl, rfl⟩) | (refine k_bld rfl rfl ?_) | (refine k_stC rfl rfl c4 ?_; intro h3 w3) | refine k_skip rfl ?_ | refine k_mv rfl ?_ | refine k_pickT rfl rfl ?_ | refine k_notF rfl ?_ | refine k_lssT rfl rfl (by omega) ?_ | refine k_eqlF rfl rfl (by omega) ?_))
        obtain ⟨r', s', b1, b2⟩ := bad en h3 w3
        exact w_roundR (.inr ⟨rfl, r', s', b1, b2, rfl⟩)
  · have : i = xs.length := by omega
    subst this
    repeat' (first | refine w_seq ?_ | refine w_seqN ?_ | refine w_seqX ?_ | refine w_exit ?_ | refine w_ops ?_ | ((refine i_cond ?_); refine w_condF rfl ?_) | ((refine i_nil ?_); refine w_end7 rfl rfl rfl rfl rfl rfl rfl ?_) | ((refine i_cons ?_); refine k_lssF rfl rfl (by omega) ?_))
    exact w_roundX (.inl ⟨rfl, r, s, _, _, _, _, _, hr, st, rfl⟩)
theorem call20 (h0 : Heap) (low : Int) (hlow : -9223372036854775808 ≤ low ∧ low ≤ 9223372036854775807) (c : SV) (xs : List Int) (hn : xs.length ≤ 1000000) (hc : IsInts h0 c xs) (hw : ∀ x ∈ xs, -9223372036854775808 ≤ x ∧ x ≤ 9223372036854775807) :
    ∃ r h', Cal FT HKt 20 [.sc (.int .i64 low), .sc c] h0 r h' ∧ Ext h0 h' ∧ IsPol h' r (ofP low xs) := by
  refine Cal.of (F := a20) rfl rfl rfl ?_
  have lc := IsSl.len hc
  repeat' (first | refine w_seq ?_ | refine w_seqN ?_ | refine w_blk ?_ | refine w_ops ?_ | ((refine i_nil ?_); first | refine w_end3 rfl rfl rfl ?_ | refine w_end4 rfl rfl rfl rfl ?_ | refine w_end6 rfl rfl rfl rfl rfl rfl ?_) | ((refine i_cons ?_); first | (have z := e1; refine k_newC ?_; intro h2 e2 c2; have d1 := c1.ext e2) | (refine k_newC ?_; intro h1 e1 c1) | refine k_len rfl lc ?_ | refine k_mv rfl ?_))
  have n1 := e1.len
  have n2 := c1.lt
  refine w_loop (I20 h0 h0.length h1.length low c xs) (cK [0, 4, 5, 8, 9, 10] xs.length 10) (R20 h0 h0.length h1.length low xs) ⟨0, [], .nilS, Nat.zero_le _, rfl, ⟨e1.trans e2, d1, c2, .inl ⟨rfl, rfl⟩, Nat.le_refl _, n1, by omega⟩, rfl⟩ (round20 h0 _ _ low hlow c xs hn hc hw) ?_
  rintro ex E' h3 (⟨rfl, r, s, a, b, c, d, e, hr, st, rfl⟩ | ⟨rfl, r, s, hr, st, rfl⟩)
  · have c5 := st.c5
    have c4 := st.c4
    repeat' (first | refine w_seq ?_ | refine w_seqN ?_ | refine w_blkX ?_ | refine w_ret ?_ | refine w_ops ?_ | ((refine i_nil ?_); refine w_end1 rfl ?_) | ((refine i_cons ?_); first | refine k_ldC rfl c5 ?_ | (refine k_stC rfl rfl c4 ?_; intro h4 w4)))
    refine ⟨.inr rfl, oK_cell rfl w4.cel.read ⟨w4.ext st.e st.l4, s, ?_, ?_⟩⟩
    · unfold ofP; rw [hr]
    · unfold ofP; rw [hr]
      exact (st.o.wrC w4).is
  · repeat' (first | refine w_seqR ?_ | refine w_blkR ?_)
    refine ⟨.inr rfl, oK_cell rfl st.c4.read ⟨st.e, .nilS, ?_, ?_⟩⟩
    · unfold ofP; rw [hr]
    · unfold ofP; rw [hr]
      exact IsD.nil _
end Go.Proofs.YtofknpknogfijaaGreatDoor
