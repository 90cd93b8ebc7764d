/- Sums: contracts. -/
import Derived.Test.YtofknpknogfijaaGreatDoorMV1
namespace Go.Proofs.YtofknpknogfijaaGreatDoor
open Go.Ab
set_option linter.unusedVariables false
set_option linter.unusedSimpArgs false
set_option maxRecDepth 20000
set_option maxHeartbeats 8000000
attribute [local irreducible] wOps wA wSeq wBlk wRound wRoundI wOpsD wOpsS
set_option linter.unusedSectionVars false
variable [HB]

structure Cb (h0 h : Heap) (q3 q4 q5 q6 q7 q8 : Nat) (sp sq s : SV) (F : Bool) (r : List Tm) : Prop where
  e : Ext h0 h
  c3 : Cel h q3 (.bool false) sp
  c4 : Cel h q4 (.bool false) sq
  c5 : Cel1 h q5 (.fn 52 [])
  c6 : Cel h q6 (.bool false) .nilS
  c7 : Cel h q7 (.bool false) s
  c8 : Cel1 h q8 (.bool F)
  o : OwnD h0 h s (tms r)
  ord : h0.length ≤ q3 ∧ q3 < q4 ∧ q4 < q5 ∧ q5 < q6 ∧ q6 < q7 ∧ q7 < q8
theorem cel_st {h : Heap} {q p : Nat} {a b : SV} (c : Cel h q a b) (hn : p ≠ q) (x : Blk) : Cel (h.set p x) q a b := by
  unfold Cel at *
  rw [List.getElem?_set_ne hn]; exact c
theorem cel1_wr {h h1 : Heap} {q p : Nat} {a x y : SV} (c : Cel1 h q a) (w : Wr h h1 p x y) (hn : p ≠ q) : Cel1 h1 q a := by
  rw [w.eq]; exact c.set hn _
def fitB (F : Bool) (c : Int) : Bool := F && decide (c.natAbs ≤ cM)
def mA : List Tm → List Tm → List Tm := mrg fun a b => a + b
def fitL (l : List Tm) : Prop := ∀ t ∈ l, t.2.natAbs ≤ cM
theorem fit_put {F : Bool} {e c : Int} {M : List Tm} : (F = true ∧ fitL (put e c ++ M)) ↔ (fitB F c = true ∧ fitL M) := by
  unfold fitL fitB
  simp only [Bool.and_eq_true, decide_eq_true_eq, List.mem_append]
  constructor
  · rintro ⟨h1, h2⟩
    refine ⟨⟨h1, ?_⟩, fun t ht => h2 t (.inr ht)⟩
    by_cases hz : c = 0
    · subst hz; simp
    · exact h2 (e, c) (.inl (by unfold put; rw [if_neg hz]; simp))
  · rintro ⟨⟨h1, h2⟩, h3⟩
    refine ⟨h1, fun t ht => ht.elim (fun ht => ?_) (h3 t)⟩
    rw [(put_mem ht).1]; exact h2
theorem put_len (e c : Int) : (put e c).length ≤ 1 := by unfold put; split <;> simp
structure Mg (p q : List Tm) (i j : Nat) (F : Bool) (r : List Tm) : Prop where
  eq : mA p q = r ++ mA (p.drop i) (q.drop j)
  ft : fitL (mA p q) ↔ (F = true ∧ fitL (mA (p.drop i) (q.drop j)))
  ln : r.length ≤ i + j
def I51 (h0 : Heap) (q3 q4 q5 q6 q7 q8 : Nat) (sp sq : SV) (p q : List Tm) (E : Env) (h : Heap) : Prop := ∃ (i j : Nat) (s : SV) (F : Bool) (r : List Tm), i ≤ p.length ∧ j ≤ q.length ∧ Cb h0 h q3 q4 q5 q6 q7 q8 sp sq s F r ∧ Mg p q i j F r ∧
  E.keep [3, 4, 6, 7, 8, 9, 10, 11] = [(3, some (.sc (.ptr q3 0))), (4, some (.sc (.ptr q4 0))), (6, some (.sc (.ptr q6 0))), (7, some (.sc (.ptr q7 0))), (8, some (.sc (.ptr q8 0))), (9, some (.sc (.fn 83 [(q5, 0), (q8, 0), (q7, 0)]))), (10, some (.sc (.int .i64 (i : Nat)))), (11, some (.sc (.int .i64 (j : Nat))))]
def R51 (h0 : Heap) (q3 q4 q5 q6 q7 q8 : Nat) (sp sq : SV) (p q : List Tm) (ex : Ex) (E : Env) (h : Heap) : Prop := ex = .ex 0 ∧ ∃ (s : SV) (F : Bool), Cb h0 h q3 q4 q5 q6 q7 q8 sp sq s F (mA p q) ∧ (fitL (mA p q) ↔ F = true) ∧ ∃ a b c d e f,
  E = [(3, a), (4, b), (6, some (.sc (.ptr q6 0))), (7, some (.sc (.ptr q7 0))), (8, some (.sc (.ptr q8 0))), (9, c), (10, d), (11, e), (40, f)]
def qC (p q : List Tm) (E : Env) (_ : Heap) : Nat := match (E.keep [3, 4, 6, 7, 8, 9, 10, 11]).get 10, (E.keep [3, 4, 6, 7, 8, 9, 10, 11]).get 11 with | some (.sc (.int .i64 i)), some (.sc (.int .i64 j)) => p.length + q.length - (i + j).toNat | _, _ => 0
end Go.Proofs.YtofknpknogfijaaGreatDoor


/- Sums: the loop, and Add. -/
namespace Go.Proofs.YtofknpknogfijaaGreatDoor
open Go.Ab
set_option linter.unusedVariables false
set_option linter.unusedSimpArgs false
set_option maxRecDepth 20000
set_option maxHeartbeats 8000000
attribute [local irreducible] wOps wA wSeq wBlk wRound wRoundI wOpsD wOpsS
set_option linter.unusedSectionVars false
variable [HB]

open Classical in
noncomputable def addP (p q : Pol) : Pol := if p.big = true ∨ q.big = true then bigP else if fitL (mA p.ts q.ts) then ⟨false, mA p.ts q.ts⟩ else bigP
end Go.Proofs.YtofknpknogfijaaGreatDoor


/- Coefficients: contracts. -/
namespace Go.Proofs.YtofknpknogfijaaGreatDoor
open Go.Ab
set_option linter.unusedVariables false
set_option linter.unusedSimpArgs false
set_option maxRecDepth 20000
set_option maxHeartbeats 8000000
attribute [local irreducible] wOps wA wSeq wBlk wRound wRoundI wOpsD wOpsS
set_option linter.unusedSectionVars false
variable [HB]

theorem call117 (h0 : Heap) (a : Int) : ∃ r h', Cal FT HKt 117 [.sc (.int .i64 a)] h0 r h' ∧ r = .sc (.bool false) ∧ h' = h0 := by
  refine Cal.of (F := a117) rfl rfl rfl ?_
  repeat' (first | refine w_seq ?_ | refine w_seqN ?_ | refine w_ret ?_ | refine w_ops ?_ | ((refine i_nil ?_); refine w_end1 rfl ?_) | ((refine i_cons ?_); first | refine k_mv rfl ?_ | refine k_neqF rfl rfl (by omega) ?_))
  exact ⟨.inr rfl, rfl, rfl⟩
def cmpV (a b : Int) : Int := if a < b then -1 else if b < a then 1 else 0
theorem call91 (h0 : Heap) (a b : Int) : ∃ r h', Cal FT HKt 91 [.sc (.int .i64 a), .sc (.int .i64 b)] h0 r h' ∧ r = .sc (.int .i64 (cmpV a b)) ∧ h' = h0 := by
  refine Cal.of (F := a91) rfl rfl rfl ?_
  have k84a := fun H => call117 H a
  have k84b := fun H => call117 H b
  by_cases h1 : a < b
  · have e : cmpV a b = -1 := by unfold cmpV; rw [if_pos h1]
    rw [e]
    repeat' (first | refine w_seq ?_ | refine w_seqN ?_ | refine w_seqR ?_ | refine w_skip ?_ | refine w_ret ?_ | refine w_ops ?_ | ((refine i_cond ?_); first | refine w_condT rfl ?_ | refine w_condF rfl ?_) | ((refine i_nil ?_); first | refine w_end1 rfl ?_ | refine w_end2 rfl rfl ?_ | refine w_end3 rfl rfl rfl ?_ | refine w_end4 rfl rfl rfl rfl ?_) | ((refine i_cons ?_); first | (refine k_call rfl (k84a _) ?_; rintro r _ ⟨rfl, rfl⟩) | (refine k_call rfl (k84b _) ?_; rintro r _ ⟨rfl, rfl⟩) | refine k_mv rfl ?_ | refine k_lssT rfl rfl (by omega) ?_))
    exact ⟨.inr rfl, rfl, rfl⟩
  · by_cases h2 : b < a
    · have e : cmpV a b = 1 := by unfold cmpV; rw [if_neg h1, if_pos h2]
      rw [e]
      repeat' (first | refine w_seq ?_ | refine w_seqN ?_ | refine w_seqR ?_ | refine w_skip ?_ | refine w_ret ?_ | refine w_ops ?_ | ((refine i_cond ?_); first | refine w_condT rfl ?_ | refine w_condF rfl ?_) | ((refine i_nil ?_); first | refine w_end1 rfl ?_ | refine w_end2 rfl rfl ?_ | refine w_end3 rfl rfl rfl ?_ | refine w_end4 rfl rfl rfl rfl ?_) | ((refine i_cons ?_); first | (refine k_call rfl (k84a _) ?_; rintro r _ ⟨rfl, rfl⟩) | (refine k_call rfl (k84b _) ?_; rintro r _ ⟨rfl, rfl⟩) | refine k_mv rfl ?_ | refine k_lssF rfl rfl (by omega) ?_ | refine k_gtrT rfl rfl (by omega) ?_))
      exact ⟨.inr rfl, rfl, rfl⟩
    · have e : cmpV a b = 0 := by unfold cmpV; rw [if_neg h1, if_neg h2]
      rw [e]
      repeat' (first | refine w_seq ?_ | refine w_seqN ?_ | refine w_skip ?_ | refine w_ret ?_ | refine w_ops ?_ | ((refine i_cond ?_); refine w_condF rfl ?_) | ((refine i_nil ?_); first | refine w_end1 rfl ?_ | refine w_end2 rfl rfl ?_ | refine w_end3 rfl rfl rfl ?_ | refine w_end4 rfl rfl rfl rfl ?_) | ((refine i_cons ?_); first | (refine k_call rfl (k84a _) ?_; rintro r _ ⟨rfl, rfl⟩) | (refine k_call rfl (k84b _) ?_; rintro r _ ⟨rfl, rfl⟩) | refine k_mv rfl ?_ | refine k_lssF rfl rfl (by omega) ?_ | refine k_gtrF rfl rfl (by omega) ?_))
      exact ⟨.inr rfl, rfl, rfl⟩
theorem call90 (h0 : Heap) (a c b : Int) : ∃ r h', Cal FT HKt 90 ([.agg [.int .i64 a, .int .i64 c], .sc (.int .i64 b)] ++ ([] : List (Nat × Nat)).map fun p => AV.sc (.ptr p.1 p.2)) h0 r h' ∧ Ext h0 h' ∧ r = .sc (.int .i64 (cmpV a b)) := by
  refine Cal.of (F := a90) rfl rfl rfl ?_
  have k63 := fun H => call91 H a b
  repeat' (first | refine w_seq ?_ | refine w_seqN ?_ | refine w_ret ?_ | refine w_ops ?_ | ((refine i_nil ?_); first | refine w_end1 rfl ?_ | refine w_end2 rfl rfl ?_) | ((refine i_cons ?_); first | (refine k_boxC rfl ?_; intro h1 e1 c1) | refine k_ldC0 rfl c1 ?_ | (refine k_call rfl (k63 _) ?_; rintro r _ ⟨rfl, rfl⟩) | refine k_mv rfl ?_ | refine k_ok rfl rfl ?_))
  exact ⟨.inr rfl, e1, rfl⟩
def I89 (h0 : Heap) (s : SV) (ts : List Tm) (tg : Int) (E : Env) (h : Heap) : Prop := Ext h0 h ∧ ∃ i j : Nat, i ≤ j ∧ j ≤ ts.length ∧ (∀ k, k < i → ∀ t, ts[k]? = some t → t.1 < tg) ∧ (∀ k, j ≤ k → ∀ t, ts[k]? = some t → tg ≤ t.1) ∧
  E.keep [0, 1, 2, 8, 9, 10] = [(0, some (.sc s)), (1, some (.sc (.int .i64 tg))), (2, some (.sc (.fn 90 []))), (8, some (.sc (.int .i64 (ts.length : Nat)))), (9, some (.sc (.int .i64 (i : Nat)))), (10, some (.sc (.int .i64 (j : Nat))))]
def R89 (h0 : Heap) (s : SV) (ts : List Tm) (tg : Int) (ex : Ex) (E : Env) (h : Heap) : Prop := Ext h0 h ∧ ex = .ex 0 ∧ ∃ i : Nat, i ≤ ts.length ∧ (∀ k, k < i → ∀ t, ts[k]? = some t → t.1 < tg) ∧ (∀ k, i ≤ k → ∀ t, ts[k]? = some t → tg ≤ t.1) ∧ ∃ a b,
  E = [(0, some (.sc s)), (1, some (.sc (.int .i64 tg))), (2, some (.sc (.fn 90 []))), (8, some (.sc (.int .i64 (ts.length : Nat)))), (9, some (.sc (.int .i64 (i : Nat)))), (10, a), (17, b)]
def qS (E : Env) (_ : Heap) : Nat := match (E.keep [0, 1, 2, 8, 9, 10]).get 9, (E.keep [0, 1, 2, 8, 9, 10]).get 10 with | some (.sc (.int .i64 i)), some (.sc (.int .i64 j)) => (j - i).toNat | _, _ => 0
theorem asc_at {ts : List Tm} (hc : Can ts) {a b : Nat} {t u : Tm} (ha : ts[a]? = some t) (hb : ts[b]? = some u) (h : a ≤ b) : t.1 ≤ u.1 := by
  by_cases e : a = b
  · subst e; rw [ha] at hb; cases hb; exact Int.le_refl _
  · obtain ⟨h1, rfl⟩ := List.getElem?_eq_some_iff.1 ha
    obtain ⟨h2, rfl⟩ := List.getElem?_eq_some_iff.1 hb
    have := (List.pairwise_iff_getElem.1 hc.asc) a b h1 h2 (by omega)
    omega
theorem round89 (h0 : Heap) (s : SV) (ts : List Tm) (tg : Int) (hs : IsD h0 s (tms ts)) (hc : Can ts) (hl : ts.length ≤ 3000000) (E : Env) (h : Heap) (hI : I89 h0 s ts tg E h) :
    wA FT HKt b89L0 (E.keep [0, 1, 2, 8, 9, 10]) h (wRound (I89 h0 s ts tg) qS (qS E h) (R89 h0 s ts tg)) := by
  obtain ⟨he, i, j, hij, hj, hlo, hhi, hE⟩ := hI
  have hm : qS E h = j - i := by unfold qS; rw [hE]; show ((j : Int) - (i : Int)).toNat = _; omega
  rw [hm, hE]
  by_cases hlt : i < j
  · obtain ⟨m, hmm⟩ : ∃ m : Nat, m = (i + j) / 2 := ⟨_, rfl⟩
    have e1 : ((i : Int) + (j : Int)) / ((2 ^ 1 : Nat) : Int) = (m : Int) := by rw [hmm]; simp
    obtain ⟨t, ht⟩ : ∃ t, ts[m]? = some t := ⟨_, List.getElem?_eq_getElem (by omega)⟩
    obtain ⟨id, off, cap, e2, r0⟩ := hs.at (i := m) (p := tmP t) (by simp [ht])
    rw [tms_len] at e2
    subst e2
    have r1 := readN_ext he r0
    have k62 := call90 h t.1 t.2 tg
    by_cases hv : t.1 < tg
    · have e : cmpV t.1 tg = -1 := by unfold cmpV; rw [if_pos hv]
      rw [e] at k62
      repeat' (first | refine w_seq ?_ | refine w_seqN ?_ | refine w_blk ?_ | refine w_blkN ?_ | refine w_skip ?_ | refine w_ops ?_ | ((refine i_cond ?_); refine w_condT rfl ?_) | ((refine i_nil ?_); first | refine w_end6 rfl rfl rfl rfl rfl rfl ?_ | refine w_end7 rfl rfl rfl rfl rfl rfl rfl ?_ | refine w_end8 rfl rfl rfl rfl rfl rfl rfl rfl ?_) | ((refine i_cons ?_); first | (refine k_cvV rfl (by omega) ?_) | (refine k_shrU (q := 1) rfl rfl rfl (by omega) ?_; rw [e1]) | refine k_idxA (esz := 2) rfl rfl (by omega) ?_ | refine k_ldD rfl r1 ?_ | (refine k_callvC rfl rfl k62 ?_; rintro r h2 ⟨e2, rfl⟩) | refine k_mv rfl ?_ | refine k_add rfl rfl (by omega) ?_ | refine k_conv rfl (by omega) ?_ | refine k_lssT rfl rfl (by omega) ?_))
      refine w_roundN ⟨he.trans e2, m + 1, j, by omega, hj, fun k hk u hu => ?_, hhi, rfl⟩ (by unfold qS; show ((j : Int) - ((m : Nat) + 1)).toNat < j - i; omega)
      have := asc_at hc hu ht (by omega)
      omega
    · have e : ¬ cmpV t.1 tg < 0 := by unfold cmpV; rw [if_neg hv]; split <;> omega
      generalize cmpV t.1 tg = C at *
      repeat' (first | refine w_seq ?_ | refine w_seqN ?_ | refine w_blk ?_ | refine w_blkN ?_ | refine w_skip ?_ | refine w_ops ?_ | ((refine i_cond ?_); first | refine w_condT rfl ?_ | refine w_condF rfl ?_) | ((refine i_nil ?_); first | refine w_end6 rfl rfl rfl rfl rfl rfl ?_ | refine w_end7 rfl rfl rfl rfl rfl rfl rfl ?_ | refine w_end8 rfl rfl rfl rfl rfl rfl rfl rfl ?_) | ((refine i_cons ?_); first | (refine k_cvV rfl (by omega) ?_) | (refine k_shrU (q := 1) rfl rfl rfl (by omega) ?_; rw [e1]) | refine k_idxA (esz := 2) rfl rfl (by omega) ?_ | refine k_ldD rfl r1 ?_ | (refine k_callvC rfl rfl k62 ?_; rintro r h2 ⟨e2, rfl⟩) | refine k_mv rfl ?_ | refine k_add rfl rfl (by omega) ?_ | refine k_conv rfl (by omega) ?_ | refine k_lssT rfl rfl (by omega) ?_ | refine k_lssF rfl rfl (by omega) ?_))
      refine w_roundN ⟨he.trans e2, i, m, by omega, by omega, hlo, fun k hk u hu => ?_, rfl⟩ (by unfold qS; show ((m : Int) - (i : Int)).toNat < j - i; omega)
      have := asc_at hc ht hu hk
      omega
  · have : j = i := by omega
    subst this
    repeat' (first | refine w_seq ?_ | refine w_seqN ?_ | refine w_seqX ?_ | refine w_exit ?_ | refine w_ops ?_ | ((refine i_cond ?_); refine w_condF rfl ?_) | ((refine i_nil ?_); refine w_end7 rfl rfl rfl rfl rfl rfl rfl ?_) | ((refine i_cons ?_); first | refine k_mv rfl ?_ | refine k_lssF rfl rfl (by omega) ?_))
    exact w_roundX ⟨he, rfl, j, hj, hlo, hhi, _, _, rfl⟩
theorem call89 (h0 : Heap) (s : SV) (ts : List Tm) (tg : Int) (hs : IsD h0 s (tms ts)) (hc : Can ts) (hl : ts.length ≤ 3000000) :
    ∃ r h', Cal FT HKt 89 [.sc s, .sc (.int .i64 tg), .sc (.fn 90 [])] h0 r h' ∧ Ext h0 h' ∧ ∃ (i : Nat) (b : Bool), r = .tup [.sc (.int .i64 (i : Nat)), .sc (.bool b)] ∧ ((b = true ∧ ∃ t, ts[i]? = some t ∧ t.1 = tg) ∨ (b = false ∧ cf ts tg = 0)) := by
  refine Cal.of (F := a89) rfl rfl rfl ?_
  have ls := hs.len
  rw [tms_len] at ls
  repeat' (first | refine w_seq ?_ | refine w_seqN ?_ | refine w_blk ?_ | refine w_ops ?_ | ((refine i_nil ?_); first | refine w_end3 rfl rfl rfl ?_ | refine w_end4 rfl rfl rfl rfl ?_ | refine w_end6 rfl rfl rfl rfl rfl rfl ?_) | ((refine i_cons ?_); first | refine k_len rfl ls ?_ | refine k_mv rfl ?_))
  refine w_loop (I89 h0 s ts tg) qS (R89 h0 s ts tg) ⟨Ext.refl _, 0, ts.length, Nat.zero_le _, Nat.le_refl _, fun k hk => absurd hk (Nat.not_lt_zero _), fun k hk t ht => by have := (List.getElem?_eq_some_iff.1 ht).1; omega, rfl⟩ (round89 h0 s ts tg hs hc hl) ?_
  rintro ex E' h1 ⟨e1, rfl, i, hi, hlo, hhi, _, _, rfl⟩
  by_cases hlt : i < ts.length
  · obtain ⟨t, ht⟩ : ∃ t, ts[i]? = some t := ⟨_, List.getElem?_eq_getElem hlt⟩
    have hge := hhi i (Nat.le_refl _) t ht
    obtain ⟨id, off, cap, e2, r0⟩ := hs.at (i := i) (p := tmP t) (by simp [ht])
    rw [tms_len] at e2
    subst e2
    have r1 := readN_ext e1 r0
    have k62 := call90 h1 t.1 t.2 tg
    by_cases hv : t.1 = tg
    · have e : cmpV t.1 tg = 0 := by unfold cmpV; rw [if_neg (by omega), if_neg (by omega)]
      rw [e] at k62
      repeat' (first | refine w_seq ?_ | refine w_seqN ?_ | refine w_blkX ?_ | refine w_ret ?_ | refine w_ops ?_ | ((refine i_nil ?_); refine w_end2 rfl rfl ?_) | ((refine i_cons ?_); first | refine k_idxA (esz := 2) rfl rfl (by omega) ?_ | refine k_ldD rfl r1 ?_ | (refine k_callvC rfl rfl k62 ?_; rintro r h2 ⟨e2, rfl⟩) | refine k_want rfl ?_ | refine k_mv rfl ?_ | refine k_pickT rfl rfl ?_ | refine k_lssT rfl rfl (by omega) ?_ | refine k_eqlT rfl rfl (by omega) ?_))
      exact ⟨.inr rfl, e1.trans e2, i, true, rfl, .inl ⟨rfl, t, ht, hv⟩⟩
    · have e : cmpV t.1 tg ≠ 0 := by unfold cmpV; rw [if_neg (by omega), if_pos (by omega)]; omega
      generalize cmpV t.1 tg = C at *
      repeat' (first | refine w_seq ?_ | refine w_seqN ?_ | refine w_blkX ?_ | refine w_ret ?_ | refine w_ops ?_ | ((refine i_nil ?_); refine w_end2 rfl rfl ?_) | ((refine i_cons ?_); first | refine k_idxA (esz := 2) rfl rfl (by omega) ?_ | refine k_ldD rfl r1 ?_ | (refine k_callvC rfl rfl k62 ?_; rintro r h2 ⟨e2, rfl⟩) | refine k_want rfl ?_ | refine k_mv rfl ?_ | refine k_pickT rfl rfl ?_ | refine k_lssT rfl rfl (by omega) ?_ | refine k_eqlF rfl rfl (by omega) ?_))
      refine ⟨.inr rfl, e1.trans e2, i, false, rfl, .inr ⟨rfl, cf_none fun u hu he => ?_⟩⟩
      obtain ⟨k, hk⟩ := List.getElem?_of_mem hu
      by_cases hki : k < i
      · have := hlo k hki u hk; omega
      · have := asc_at hc ht hk (by omega); omega
  · repeat' (first | refine w_seq ?_ | refine w_seqN ?_ | refine w_blkX ?_ | refine w_ret ?_ | refine w_ops ?_ | ((refine i_nil ?_); refine w_end2 rfl rfl ?_) | ((refine i_cons ?_); first | refine k_skip rfl ?_ | refine k_mv rfl ?_ | refine k_pickF rfl rfl ?_ | refine k_lssF rfl rfl (by omega) ?_))
    refine ⟨.inr rfl, e1, i, false, rfl, .inr ⟨rfl, cf_none fun u hu he => ?_⟩⟩
    obtain ⟨k, hk⟩ := List.getElem?_of_mem hu
    have hk2 := (List.getElem?_eq_some_iff.1 hk).1
    have := hlo k (by omega) u hk; omega
theorem call62 (h0 : Heap) (b : Bool) (s : SV) (ts : List Tm) (tg : Int) (hs : IsD h0 s (tms ts)) (hc : Can ts) (hl : ts.length ≤ 3000000) :
    ∃ r h', Cal FT HKt 62 [.agg [.bool b, s], .sc (.int .i64 tg)] h0 r h' ∧ Ext h0 h' ∧ r = .sc (.int .i64 (cf ts tg)) := by
  refine Cal.of (F := a62) rfl rfl rfl ?_
  have k61 := fun H (e : Ext h0 H) => call89 H s ts tg (hs.ext e) hc hl
  repeat' (first | refine w_seq ?_ | refine w_seqN ?_ | refine w_ops ?_ | ((refine i_nil ?_); first | refine w_end2 rfl rfl ?_ | refine w_end3 rfl rfl rfl ?_) | ((refine i_cons ?_); first | (refine k_boxC rfl ?_; intro h1 e1 c1) | refine k_fldA rfl ?_ | refine k_ldC1 rfl c1 ?_ | (refine k_call rfl (k61 h1 e1) ?_; rintro r h2 ⟨e2, i, bb, rfl, hor⟩; have c2 := c1.ext e2) | refine k_mv rfl ?_ | refine k_ok rfl rfl ?_))
  rcases hor with ⟨rfl, t, ht, he⟩ | ⟨rfl, h0⟩
  · obtain ⟨id, off, cap, e3, r0⟩ := hs.at (i := i) (p := tmP t) (by simp [ht])
    rw [tms_len] at e3
    subst e3
    have hlt := (List.getElem?_eq_some_iff.1 ht).1
    have r2 := readN_ext (e1.trans e2) (rd1 r0).2
    have e : cf ts tg = t.2 := by rw [← he]; exact cf_mem hc (List.mem_of_getElem? ht)
    rw [e]
    repeat' (first | refine w_seq ?_ | refine w_seqN ?_ | refine w_skip ?_ | refine w_ret ?_ | refine w_ops ?_ | ((refine i_cond ?_); refine w_condF rfl ?_) | ((refine i_nil ?_); refine w_end1 rfl ?_) | ((refine i_cons ?_); first | refine k_fldA rfl ?_ | refine k_ldC1 rfl c2 ?_ | refine k_idxA (esz := 2) rfl rfl (by omega) ?_ | refine k_ld rfl r2 ?_ | refine k_mv rfl ?_))
    exact ⟨.inr rfl, e1.trans e2, rfl⟩
  · rw [h0]
    repeat' (first | refine w_seq ?_ | refine w_seqN ?_ | refine w_seqR ?_ | refine w_ret ?_ | refine w_ops ?_ | ((refine i_cond ?_); refine w_condT rfl ?_) | ((refine i_nil ?_); refine w_end1 rfl ?_) | ((refine i_cons ?_); refine k_mv rfl ?_))
    exact ⟨.inr rfl, e1.trans e2, rfl⟩

end Go.Proofs.YtofknpknogfijaaGreatDoor

