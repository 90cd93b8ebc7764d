/- Text: its contract. -/
import Derived.Test.YtlnjddjobbhcaaaDoorO3
import Derived.Test.YtlnjddjobbhcaaaDoorO6
namespace Go.Proofs.YtlnjddjobbhcaaaDoor
open Go.Ab
set_option linter.unusedVariables false
set_option linter.unusedSimpArgs false
set_option maxRecDepth 20000
set_option maxHeartbeats 4000000
attribute [local irreducible] wOps wA wSeq wBlk wRound wRoundI wOpsD wOpsS

def I34 (hb : Heap) (B : Nat) (nm : List UInt8) (s : SV) (ts : List Tm) (E : Env) (h : Heap) : Prop := ∃ i : Nat, i ≤ ts.length ∧ BL hb h B (txtN nm ts i) ∧
  E.keep [1, 5, 18, 19, 20] = [(1, some (.sc (tb nm))), (5, some (.sc (.ptr B 0))), (18, some (.sc s)), (19, some (.sc (.int .i64 (ts.length : Nat)))), (20, some (.sc (.int .i64 (i : Nat))))]
def R34 (hb : Heap) (B : Nat) (nm : List UInt8) (ts : List Tm) (ex : Ex) (E : Env) (h : Heap) : Prop := BL hb h B (txtN nm ts ts.length) ∧
  ex = .ex 1 ∧ ∃ a b c d e, E = [(1, a), (5, some (.sc (.ptr B 0))), (18, b), (19, c), (20, d), (21, e)]
theorem round34 (hb : Heap) (B : Nat) (s : SV) (nm : List UInt8) (hn : nm.length ≤ 40) (ts : List Tm) (hs : IsD hb s (tms ts)) (hl : ts.length ≤ 1000) (hc : ∀ t ∈ ts, t.2.natAbs ≤ cM) (he : ∀ t ∈ ts, t.1.natAbs ≤ eM) (E : Env) (h : Heap) (hI : I34 hb B nm s ts E h) :
    wA FT HKt b34L0 (E.keep [1, 5, 18, 19, 20]) h (wRound (I34 hb B nm s ts) (cK [1, 5, 18, 19, 20] ts.length 20) (cK [1, 5, 18, 19, 20] ts.length 20 E h) (R34 hb B nm ts)) := by
  obtain ⟨i, hi, b0, hE⟩ := hI
  have hm : cK [1, 5, 18, 19, 20] ts.length 20 E h = ts.length - i := by unfold cK; rw [hE]; rfl
  rw [hm, hE]
  by_cases hlt : i < ts.length
  · obtain ⟨t, ht⟩ : ∃ t, ts[i]? = some t := ⟨_, List.getElem?_eq_getElem hlt⟩
    obtain ⟨id, off, cap, e1, r0⟩ := hs.at (i := i) (p := tmP t) (by simp [ht])
    rw [tms_len] at e1
    subst e1
    have r1 := readN_ext b0.ext r0
    have hc1 : t.2.natAbs ≤ 1125899906842624 := hc t (List.mem_of_getElem? ht)
    have he1 : t.1.natAbs ≤ 1048576 := he t (List.mem_of_getElem? ht)
    have l1 := txtN_len hn hc he i hi
    have l2 := itoa_l hc1
    have l3 := itoa_l (x := t.1) (by omega)
    have l4 := itoa_l (x := -t.2) (by omega)
    have hst := txtN_succ (nm := nm) ht
    have fin : ∀ h2 L, BL hb h2 B L → L = txtN nm ts (i + 1) → I34 hb B nm (.slc id off ts.length cap) ts [(1, some (.sc (tb nm))), (5, some (.sc (.ptr B 0))), (18, some (.sc (.slc id off ts.length cap))), (19, some (.sc (.int .i64 (ts.length : Nat)))), (20, some (.sc (.int .i64 ((i : Nat) + 1))))] h2 := fun h2 L b2 eL => ⟨i + 1, by omega, by rw [← eL]; exact b2, rfl⟩
    repeat' (first | refine w_seq ?_ | refine w_seqN ?_ | refine w_blk ?_ | refine w_blkN ?_ | refine w_skip ?_ | refine w_ops ?_ | ((refine i_cond ?_); first | refine w_condT rfl ?_ | refine w_condF rfl ?_) | ((refine i_nil ?_); first | refine w_end5 rfl rfl rfl rfl rfl ?_ | refine w_end6 rfl rfl rfl rfl rfl rfl ?_ | refine w_end7 rfl rfl rfl rfl rfl rfl rfl ?_ | refine w_end8 rfl rfl rfl rfl rfl rfl rfl rfl ?_ | refine w_end9 rfl rfl rfl rfl rfl rfl rfl rfl rfl ?_) | ((refine i_cons ?_); first | refine k_idxA (esz := 2) rfl rfl (by omega) ?_ | refine k_ldD rfl r1 ?_ | (refine k_newC ?_; intro h1 e1 c1) | (refine k_stC rfl rfl c1 ?_; intro h2 w2; have b1 := BLq.of b0 (w2.ext e1 (Nat.le_refl _)) w2.cel) | refine k_fldA rfl ?_ | refine k_ldC1 rfl b1.at ?_ | refine k_ldC0 rfl b1.at ?_ | (refine k_call rfl (call65q _ _ _ _ 45 _ _ b1 (by omega)) ?_; rintro v h2 ⟨rfl, b1⟩) | (refine k_call rfl (call65q _ _ _ _ 43 _ _ b1 (by omega)) ?_; rintro v h2 ⟨rfl, b1⟩) | (refine k_call rfl (call65q _ _ _ _ 94 _ _ b1 (by simp only [List.length_append, List.length_cons, List.length_nil]; omega)) ?_; rintro v h2 ⟨rfl, b1⟩) | (refine k_call rfl (itoa_call t.1 (by omega)) ?_; rintro v _ ⟨rfl, rfl⟩) | (refine k_call rfl (itoa_call t.2 (by omega)) ?_; rintro v _ ⟨rfl, rfl⟩) | (refine k_call rfl (itoa_call (-t.2) (by omega)) ?_; rintro v _ ⟨rfl, rfl⟩) | (refine k_call rfl (call66q _ _ _ _ nm _ _ b1 (by simp only [List.length_append, List.length_cons, List.length_nil]; omega) (by omega)) ?_; rintro v h2 b1) | (refine k_call rfl (call66q _ _ _ _ nm _ _ b1 (by omega) (by omega)) ?_; rintro v h2 b1) | (refine k_call rfl (call66q _ _ _ _ (Lib.itoa _) _ _ b1 (by simp only [List.length_append, List.length_cons, List.length_nil]; omega) (by omega)) ?_; rintro v h2 b1) | (refine k_call rfl (call66q _ _ _ _ (Lib.itoa _) _ _ b1 (by omega) (by omega)) ?_; rintro v h2 b1) | refine k_skip rfl ?_ | refine k_want rfl ?_ | refine k_mv rfl ?_ | refine k_pickT rfl rfl ?_ | refine k_pickF rfl rfl ?_ | refine k_add rfl rfl (by omega) ?_ | refine k_neg rfl (by omega) ?_ | refine k_lssT rfl rfl (by omega) ?_ | refine k_lss rfl rfl (fun hc => ?_) (fun hc => ?_) | refine k_gtr rfl rfl (fun hc => ?_) (fun hc => ?_) | refine k_eql rfl rfl (fun hc => ?_) (fun hc => ?_) | refine k_neqT rfl rfl (by omega) ?_ | refine k_neqF rfl rfl (by omega) ?_ | refine k_neq rfl rfl (fun hc => ?_) (fun hc => ?_)))
    all_goals refine w_roundN (fin _ _ b1.bl ?_) (by simp [cK, Env.keep, Env.get]; omega)
    all_goals (rw [hst]; unfold tTx bodyT; repeat first | rw [if_pos (by omega)] | rw [if_neg (by omega)])
    all_goals simp only [List.append_assoc, List.append_nil, List.nil_append]
  · have : i = ts.length := by omega
    subst this
    repeat' (first | refine w_seq ?_ | refine w_seqN ?_ | refine w_seqX ?_ | refine w_exit ?_ | refine w_ops ?_ | ((refine i_cond ?_); refine w_condF rfl ?_) | ((refine i_nil ?_); refine w_end6 rfl rfl rfl rfl rfl rfl ?_) | ((refine i_cons ?_); refine k_lssF rfl rfl (by omega) ?_))
    exact w_roundX ⟨b0, rfl, _, _, _, _, _, rfl⟩
theorem call34 (h0 : Heap) (s : SV) (nm : List UInt8) (hn : nm.length ≤ 40) (p : Pol) (hs : IsD h0 s (tms p.ts)) (hl : p.ts.length ≤ 1000) (hc : ∀ t ∈ p.ts, t.2.natAbs ≤ cM) (he : ∀ t ∈ p.ts, t.1.natAbs ≤ eM) :
    ∃ r h', Cal FT HKt 34 [.agg [.bool p.big, s], .sc (tb nm)] h0 r h' ∧ Ext h0 h' ∧ r = .sc (tb (txtP nm p)) := by
  refine Cal.of (F := a34) rfl rfl rfl ?_
  have ls := hs.len
  rw [tms_len] at ls
  cases hb : p.big with
  | true =>
    have e : txtP nm p = [98, 105, 103] := by unfold txtP; rw [if_pos hb]
    repeat' (first | refine w_seq ?_ | refine w_seqN ?_ | refine w_seqR ?_ | refine w_blk ?_ | refine w_blkR ?_ | refine w_ret ?_ | refine w_ops ?_ | ((refine i_cond ?_); refine w_condT rfl ?_) | ((refine i_nil ?_); first | refine w_end1 rfl ?_ | refine w_end2 rfl rfl ?_ | refine w_end3 rfl rfl rfl ?_) | ((refine i_cons ?_); first | (refine k_boxC rfl ?_; intro h1 e1 c1) | refine k_fldA rfl ?_ | refine k_ldC0 rfl c1 ?_ | refine k_mv rfl ?_))
    exact ⟨.inr rfl, e1, by rw [e]; rfl⟩
  | false =>
    by_cases hz : p.ts = []
    · have e : txtP nm p = [48] := by unfold txtP; rw [if_neg (by rw [hb]; decide), if_pos hz]
      rw [hz, List.length_nil] at ls
      repeat' (first | refine w_seq ?_ | refine w_seqN ?_ | refine w_seqR ?_ | refine w_blk ?_ | refine w_blkR ?_ | refine w_ret ?_ | refine w_ops ?_ | ((refine i_cond ?_); first | refine w_condT rfl ?_ | refine w_condF rfl ?_) | ((refine i_nil ?_); first | refine w_end1 rfl ?_ | refine w_end2 rfl rfl ?_ | refine w_end3 rfl rfl rfl ?_) | ((refine i_cons ?_); first | (refine k_boxC rfl ?_; intro h1 e1 c1) | refine k_fldA rfl ?_ | refine k_ldC1 rfl c1 ?_ | refine k_ldC0 rfl c1 ?_ | refine k_len rfl ls ?_ | refine k_mv rfl ?_ | refine k_eqlT rfl rfl (by omega) ?_))
      exact ⟨.inr rfl, e1, by rw [e]; rfl⟩
    · have e : txtP nm p = txtN nm p.ts p.ts.length := by unfold txtP; rw [if_neg (by rw [hb]; decide), if_neg hz]
      have hp : 0 < p.ts.length := List.length_pos_iff.2 hz
      repeat' (first | refine w_seq ?_ | refine w_seqN ?_ | refine w_blk ?_ | refine w_blkN ?_ | refine w_skip ?_ | refine w_ops ?_ | ((refine i_cond ?_); refine w_condF rfl ?_) | ((refine i_nil ?_); first | refine w_end2 rfl rfl ?_ | refine w_end3 rfl rfl rfl ?_ | refine w_end5 rfl rfl rfl rfl rfl ?_) | ((refine i_cons ?_); first | (refine k_boxC rfl ?_; intro h1 e1 c1) | refine k_fldA rfl ?_ | refine k_ldC1 rfl c1 ?_ | refine k_ldC0 rfl c1 ?_ | refine k_len rfl ls ?_ | refine k_ldC1 rfl (c1.ext ((Ext.refl _).app _)) ?_ | refine k_mv rfl ?_ | refine k_eqlF rfl rfl (by omega) ?_ | refine k_ok rfl rfl ?_))
      have hln := txtN_len hn hc he p.ts.length (Nat.le_refl _)
      refine w_loop (I34 h1 h1.length nm s p.ts) (cK [1, 5, 18, 19, 20] p.ts.length 20) (R34 h1 h1.length nm p.ts) ⟨0, Nat.zero_le _, Bld.new 90 bz (Ext.refl h1), rfl⟩ (round34 h1 h1.length s nm hn p.ts (hs.ext e1) hl hc he) ?_
      rintro ex E' h2 ⟨b2, rfl, _, _, _, _, _, rfl⟩
      repeat' (first | refine w_seq ?_ | refine w_seqN ?_ | refine w_blkX ?_ | refine w_ret ?_ | refine w_ops ?_ | ((refine i_nil ?_); refine w_end1 rfl ?_) | ((refine i_cons ?_); first | (refine k_call rfl (call68 _ _ _ _ b2 (by omega)) ?_; rintro v h3 ⟨rfl, e3⟩) | refine k_mv rfl ?_))
      exact ⟨.inr rfl, e1.trans e3, by rw [e]; rfl⟩
end Go.Proofs.YtlnjddjobbhcaaaDoor


namespace Go.Proofs.YtlnjddjobbhcaaaDoor
open Go.Ab
set_option linter.unusedVariables false
set_option linter.unusedSimpArgs false
set_option maxRecDepth 20000
set_option maxHeartbeats 4000000
attribute [local irreducible] wOps wA wSeq wBlk wRound wRoundI wOpsD wOpsS

def I52 (h0 : Heap) (q2 : Nat) (nm : List UInt8) (ts : List Tm) (E : Env) (h : Heap) : Prop := ∃ i : Nat, i ≤ ts.length ∧ Ext h0 h ∧
  E.keep [1, 2, 5, 6] = [(1, some (.sc (tb nm))), (2, some (.sc (.ptr q2 0))), (5, some (.sc (tb (txtN nm ts i)))), (6, some (.sc (.int .i64 (i : Nat))))]
def R52 (h0 : Heap) (nm : List UInt8) (ts : List Tm) (ex : Ex) (E : Env) (h : Heap) : Prop := Ext h0 h ∧
  ex = .ex 0 ∧ ∃ a b c d, E = [(1, a), (2, b), (5, some (.sc (tb (txtN nm ts ts.length)))), (6, c), (19, d)]
theorem round52 (h0 : Heap) (q2 : Nat) (b : Bool) (s : SV) (nm : List UInt8) (hn : nm.length ≤ 40) (ts : List Tm) (hs : IsD h0 s (tms ts)) (c2 : Cel h0 q2 s (.bool b)) (hl : ts.length ≤ 1000) (hc : ∀ t ∈ ts, t.2.natAbs ≤ cM) (he : ∀ t ∈ ts, t.1.natAbs ≤ eM) (E : Env) (h : Heap) (hI : I52 h0 q2 nm ts E h) :
    wA FT HKt b52L0 (E.keep [1, 2, 5, 6]) h (wRound (I52 h0 q2 nm ts) (cK [1, 2, 5, 6] ts.length 6) (cK [1, 2, 5, 6] ts.length 6 E h) (R52 h0 nm ts)) := by
  obtain ⟨i, hi, e0, hE⟩ := hI
  have hm : cK [1, 2, 5, 6] ts.length 6 E h = ts.length - i := by unfold cK; rw [hE]; rfl
  rw [hm, hE]
  have ls := hs.len
  rw [tms_len] at ls
  have d2 := c2.ext e0
  by_cases hlt : i < ts.length
  · obtain ⟨t, ht⟩ : ∃ t, ts[i]? = some t := ⟨_, List.getElem?_eq_getElem hlt⟩
    obtain ⟨id, off, cap, e1, r0⟩ := hs.at (i := i) (p := tmP t) (by simp [ht])
    rw [tms_len] at e1
    subst e1
    have r1 := readN_ext e0 r0
    have hc1 : t.2.natAbs ≤ 1125899906842624 := hc t (List.mem_of_getElem? ht)
    have he1 : t.1.natAbs ≤ 1048576 := he t (List.mem_of_getElem? ht)
    have l1 := txtN_len hn hc he i hi
    have l2 := itoa_l hc1
    have l3 := itoa_l (x := t.1) (by omega)
    have l4 := itoa_l (x := -t.2) (by omega)
    have hst := txtN_succ (nm := nm) ht
    have fin : ∀ h2 L, Ext h0 h2 → L = txtN nm ts (i + 1) → I52 h0 q2 nm ts [(1, some (.sc (tb nm))), (2, some (.sc (.ptr q2 0))), (5, some (.sc (tb L))), (6, some (.sc (.int .i64 ((i : Nat) + 1))))] h2 := fun h2 L e2 eL => ⟨i + 1, by omega, e2, by rw [eL]; rfl⟩
    repeat' (first | refine w_seq ?_ | refine w_seqN ?_ | refine w_blk ?_ | refine w_blkN ?_ | refine w_skip ?_ | refine w_ops ?_ | ((refine i_cond ?_); first | refine w_condT rfl ?_ | refine w_condF rfl ?_) | ((refine i_nil ?_); first | refine w_end4 rfl rfl rfl rfl ?_ | refine w_end5 rfl rfl rfl rfl rfl ?_ | refine w_end6 rfl rfl rfl rfl rfl rfl ?_ | refine w_end7 rfl rfl rfl rfl rfl rfl rfl ?_) | ((refine i_cons ?_); first | refine k_fldA rfl ?_ | refine k_ldC0 rfl d2 ?_ | refine k_len rfl ls ?_ | refine k_idxA (esz := 2) rfl rfl (by omega) ?_ | refine k_ldD rfl r1 ?_ | (refine k_newst rfl ?_; intro h1 e2 c7) | refine k_ldC1 rfl c7 ?_ | refine k_ldC0 rfl c7 ?_ | refine k_cat rfl (show _ = some (tb [45]) from rfl) (by simp only [List.length_append, List.length_cons, List.length_nil]; omega) ?_ | refine k_cat rfl (show _ = some (tb [43]) from rfl) (by simp only [List.length_append, List.length_cons, List.length_nil]; omega) ?_ | refine k_cat rfl (show _ = some (tb [94]) from rfl) (by simp only [List.length_append, List.length_cons, List.length_nil]; omega) ?_ | refine k_cat rfl rfl (by omega) ?_ | refine k_cat rfl rfl (by simp only [List.length_append, List.length_cons, List.length_nil]; omega) ?_ | (refine k_call rfl (dec81 _ t.1 (by omega)) ?_; rintro v _ ⟨rfl, rfl⟩) | (refine k_call rfl (dec81 _ t.2 (by omega)) ?_; rintro v _ ⟨rfl, rfl⟩) | (refine k_call rfl (dec81 _ (-t.2) (by omega)) ?_; rintro v _ ⟨rfl, rfl⟩) | refine k_skip rfl ?_ | refine k_want rfl ?_ | refine k_mv rfl ?_ | refine k_pickT rfl rfl ?_ | refine k_pickF rfl rfl ?_ | refine k_add rfl rfl (by omega) ?_ | refine k_neg rfl (by omega) ?_ | refine k_lssT rfl rfl (by omega) ?_ | refine k_lss rfl rfl (fun hc => ?_) (fun hc => ?_) | refine k_gtr rfl rfl (fun hc => ?_) (fun hc => ?_) | refine k_eql rfl rfl (fun hc => ?_) (fun hc => ?_) | refine k_neqT rfl rfl (by omega) ?_ | refine k_neqF rfl rfl (by omega) ?_ | refine k_neq rfl rfl (fun hc => ?_) (fun hc => ?_)))
    all_goals refine w_roundN (fin _ _ (e0.trans e2) ?_) (by simp [cK, Env.keep, Env.get]; omega)
    all_goals (rw [hst]; unfold tTx bodyT; repeat first | rw [if_pos (by omega)] | rw [if_neg (by omega)])
    all_goals simp only [List.append_assoc, List.append_nil, List.nil_append]
  · have : i = ts.length := by omega
    subst this
    repeat' (first | refine w_seq ?_ | refine w_seqN ?_ | refine w_seqX ?_ | refine w_exit ?_ | refine w_ops ?_ | ((refine i_cond ?_); refine w_condF rfl ?_) | ((refine i_nil ?_); refine w_end5 rfl rfl rfl rfl rfl ?_) | ((refine i_cons ?_); first | refine k_fldA rfl ?_ | refine k_ldC0 rfl d2 ?_ | refine k_len rfl ls ?_ | refine k_mv rfl ?_ | refine k_lssF rfl rfl (by omega) ?_))
    exact w_roundX ⟨e0, rfl, _, _, _, _, rfl⟩
theorem call52 (h0 : Heap) (b : Bool) (s : SV) (nm : List UInt8) (hn : nm.length ≤ 40) (p : Pol) (hb : p.big = b) (hs : IsD h0 s (tms p.ts)) (hl : p.ts.length ≤ 1000) (hc : ∀ t ∈ p.ts, t.2.natAbs ≤ cM) (he : ∀ t ∈ p.ts, t.1.natAbs ≤ eM) :
    ∃ r h', Cal FT HKt 52 [.agg [s, .bool b], .sc (tb nm)] h0 r h' ∧ Ext h0 h' ∧ r = .sc (tb (txtP nm p)) := by
  refine Cal.of (F := a52) rfl rfl rfl ?_
  have ls := hs.len
  rw [tms_len] at ls
  cases b with
  | true =>
    have e : txtP nm p = [98, 105, 103] := by unfold txtP; rw [if_pos hb]
    repeat' (first | refine w_seq ?_ | refine w_seqN ?_ | refine w_seqR ?_ | refine w_ret ?_ | refine w_ops ?_ | ((refine i_cond ?_); refine w_condT rfl ?_) | ((refine i_nil ?_); first | refine w_end1 rfl ?_ | refine w_end2 rfl rfl ?_ | refine w_end3 rfl rfl rfl ?_) | ((refine i_cons ?_); first | (refine k_boxC rfl ?_; intro h1 e1 c1) | refine k_fldA rfl ?_ | refine k_ldC1 rfl c1 ?_ | refine k_mv rfl ?_))
    exact ⟨.inr rfl, e1, by rw [e]; rfl⟩
  | false =>
    by_cases hz : p.ts = []
    · have e : txtP nm p = [48] := by unfold txtP; rw [if_neg (by rw [hb]; decide), if_pos hz]
      rw [hz, List.length_nil] at ls
      repeat' (first | refine w_seq ?_ | refine w_seqN ?_ | refine w_seqR ?_ | refine w_skip ?_ | refine w_ret ?_ | refine w_ops ?_ | ((refine i_cond ?_); first | refine w_condT rfl ?_ | refine w_condF rfl ?_) | ((refine i_nil ?_); first | refine w_end1 rfl ?_ | refine w_end2 rfl rfl ?_ | refine w_end3 rfl rfl rfl ?_) | ((refine i_cons ?_); first | (refine k_boxC rfl ?_; intro h1 e1 c1) | refine k_fldA rfl ?_ | refine k_ldC1 rfl c1 ?_ | refine k_ldC0 rfl c1 ?_ | refine k_len rfl ls ?_ | refine k_mv rfl ?_ | refine k_eqlT rfl rfl (by omega) ?_))
      exact ⟨.inr rfl, e1, by rw [e]; rfl⟩
    · have e : txtP nm p = txtN nm p.ts p.ts.length := by unfold txtP; rw [if_neg (by rw [hb]; decide), if_neg hz]
      have hp : 0 < p.ts.length := List.length_pos_iff.2 hz
      repeat' (first | refine w_seq ?_ | refine w_seqN ?_ | refine w_blk ?_ | refine w_skip ?_ | refine w_ops ?_ | ((refine i_cond ?_); refine w_condF rfl ?_) | ((refine i_nil ?_); first | refine w_end2 rfl rfl ?_ | refine w_end3 rfl rfl rfl ?_ | refine w_end4 rfl rfl rfl rfl ?_) | ((refine i_cons ?_); first | (refine k_boxC rfl ?_; intro h1 e1 c1) | refine k_fldA rfl ?_ | refine k_ldC1 rfl c1 ?_ | refine k_ldC0 rfl c1 ?_ | refine k_len rfl ls ?_ | refine k_mv rfl ?_ | refine k_eqlF rfl rfl (by omega) ?_))
      refine w_loop (I52 h1 h0.length nm p.ts) (cK [1, 2, 5, 6] p.ts.length 6) (R52 h1 nm p.ts) ⟨0, Nat.zero_le _, Ext.refl _, rfl⟩ (round52 h1 h0.length false s nm hn p.ts (hs.ext e1) c1 hl hc he) ?_
      rintro ex E' h2 ⟨e2, rfl, _, _, _, _, rfl⟩
      repeat' (first | refine w_seq ?_ | refine w_seqN ?_ | refine w_blkX ?_ | refine w_ret ?_ | refine w_ops ?_ | ((refine i_nil ?_); refine w_end1 rfl ?_) | ((refine i_cons ?_); refine k_mv rfl ?_))
      exact ⟨.inr rfl, e1.trans e2, by rw [e]; rfl⟩
end Go.Proofs.YtlnjddjobbhcaaaDoor


namespace Go.Proofs.YtlnjddjobbhcaaaDoor
open Go.Ab
set_option linter.unusedVariables false
set_option linter.unusedSimpArgs false
set_option maxRecDepth 20000
set_option maxHeartbeats 4000000
attribute [local irreducible] wOps wA wSeq wBlk wRound wRoundI wOpsD wOpsS

theorem ofP_rngO {low : Int} {xs : List Int} : ∀ t ∈ (ofP low xs).ts, low ≤ t.1 ∧ t.1 < low + xs.length := by
  unfold ofP
  cases h : ofN low xs xs.length with
  | none => simp [bigP]
  | some r => exact fun t ht => let ⟨a, b, _⟩ := (ofN_ok h).2.1 t ht; ⟨a, b⟩
/-- The polynomial of the reference is the same. -/
theorem call20 (h0 : Heap) (s t : SV) (p : Pol) (kp : Pok p) (hl : p.ts.length ≤ 1000) (hx : ∀ t ∈ p.ts, t.1.natAbs ≤ 300) (hs : IsD h0 s (tms p.ts)) (ht : IsD h0 t (tms p.ts)) :
    ∃ r h', Cal FT HKt 20 [.agg [.bool p.big, s], .agg [t, .bool p.big]] h0 r h' ∧ Ext h0 h' ∧ r = .sc (.bool true) := by
  refine Cal.of (F := a20) rfl rfl rfl ?_
  have k51 := fun H (e : Ext h0 H) => call51 H p.big s p.ts (hs.ext e) kp.can (by omega) hx
  have k50 := fun H (e : Ext h0 H) s1 hs1 => call50 H s1 t p p hs1 (ht.ext e) kp.big kp.big (by omega) (by omega)
  have k34 := fun H (e : Ext h0 H) => call34 H s [116] (by decide) p (hs.ext e) hl kp.cf kp.ex
  have k52 := fun H (e : Ext h0 H) => call52 H p.big t [116] (by decide) p rfl (ht.ext e) hl kp.cf kp.ex
  simp only [decide_true] at k50
  repeat' (first | refine w_seq ?_ | refine w_seqN ?_ | refine w_seqX ?_ | refine w_seqR ?_ | refine w_blk ?_ | refine w_blkN ?_ | refine w_blkX ?_ | refine w_blkR ?_ | refine w_skip ?_ | refine w_ret ?_ | refine w_exit ?_ | refine w_ops ?_ | refine w_opsD ?_ | refine d_one ?_ | refine d_nil ?_ | (refine w_blkY ?_ ?_; rfl) | ((refine i_cond ?_); first | refine w_condT rfl ?_ | refine w_condF rfl ?_) | ((refine i_nil ?_); first | refine d_same ?_ | refine d_ord ?_ | refine d_ext ⟨_, rfl⟩ ?_ | refine d_ext (extA _ _ _) ?_ | refine d_ext (by assumption) ?_ | refine w_end0 ?_ | refine w_end1 rfl ?_ | refine w_end2 rfl rfl ?_ | refine w_end3 rfl rfl rfl ?_ | refine w_end4 rfl rfl rfl rfl ?_ | refine w_end5 rfl rfl rfl rfl rfl ?_ | refine w_end6 rfl rfl rfl rfl rfl rfl ?_ | refine w_end7 rfl rfl rfl rfl rfl rfl rfl ?_ | refine w_end8 rfl rfl rfl rfl rfl rfl rfl rfl ?_ | refine w_end9 rfl rfl rfl rfl rfl rfl rfl rfl rfl ?_ | refine w_end10 rfl rfl rfl rfl rfl rfl rfl rfl rfl rfl ?_ | refine w_end11 rfl rfl rfl rfl rfl rfl rfl rfl rfl rfl rfl ?_ | refine w_end12 rfl rfl rfl rfl rfl rfl rfl rfl rfl rfl rfl rfl ?_ | refine w_end13 rfl rfl rfl rfl rfl rfl rfl rfl rfl rfl rfl rfl rfl ?_ | refine w_end14 rfl rfl rfl rfl rfl rfl rfl rfl rfl rfl rfl rfl rfl rfl ?_ | refine w_end15 rfl rfl rfl rfl rfl rfl rfl rfl rfl rfl rfl rfl rfl rfl rfl ?_ | refine w_end16 rfl rfl rfl rfl rfl rfl rfl rfl rfl rfl rfl rfl rfl rfl rfl rfl ?_) | ((refine i_cons ?_); first | (have z := e1; refine k_boxC rfl ?_; intro h2 e2 c2; have d1 := c1.ext e2; have x2 := e1.trans e2) | (refine k_boxC rfl ?_; intro h1 e1 c1) | refine k_ldC rfl d1 ?_ | (refine k_call rfl (k51 h2 x2) ?_; rintro r h3 ⟨e3, s3, rfl, d3⟩; have c3 := c2.ext e3; have x3 := x2.trans e3) | refine k_ldC rfl c3 ?_ | (refine k_call rfl (k50 h3 x3 _ d3) ?_; rintro r h4 ⟨e4, rfl⟩; have x4 := x3.trans e4; have f1 := (d1.ext e3).ext e4; have f2 := c3.ext e4) | refine k_ldC rfl f1 ?_ | (refine k_call rfl (k34 h4 x4) ?_; rintro r h5 ⟨e5, rfl⟩; have x5 := x4.trans e5; have f5 := f2.ext e5) | refine k_ldC rfl f5 ?_ | (refine k_call rfl (k52 h5 x5) ?_; rintro r h6 ⟨e6, rfl⟩; have x6 := x5.trans e6) | refine k_seql rfl rfl (decide_eq_true rfl) ?_ | refine k_skip rfl ?_ | refine k_skipU rfl ?_ | refine k_want rfl ?_ | refine k_mv rfl ?_ | refine k_pickT rfl rfl ?_ | refine k_pickF rfl rfl ?_ | refine k_notT rfl ?_ | refine k_notF rfl ?_ | refine k_add rfl rfl (by omega) ?_ | refine k_sub rfl rfl (by omega) ?_ | refine k_mul rfl rfl (by omega) ?_ | refine k_neg rfl (by omega) ?_ | refine k_quo rfl rfl (by omega) ?_ | refine k_rem rfl rfl (by omega) ?_ | refine k_conv rfl (by omega) ?_ | refine k_max rfl rfl ?_ | refine k_min rfl rfl ?_ | refine k_lssT rfl rfl (by omega) ?_ | refine k_lssF rfl rfl (by omega) ?_ | refine k_lss rfl rfl (fun hc => ?_) (fun hc => ?_) | refine k_leqT rfl rfl (by omega) ?_ | refine k_leqF rfl rfl (by omega) ?_ | refine k_leq rfl rfl (fun hc => ?_) (fun hc => ?_) | refine k_gtrT rfl rfl (by omega) ?_ | refine k_gtrF rfl rfl (by omega) ?_ | refine k_gtr rfl rfl (fun hc => ?_) (fun hc => ?_) | refine k_geqT rfl rfl (by omega) ?_ | refine k_geqF rfl rfl (by omega) ?_ | refine k_geq rfl rfl (fun hc => ?_) (fun hc => ?_) | refine k_eqlT rfl rfl (by omega) ?_ | refine k_eqlF rfl rfl (by omega) ?_ | refine k_eql rfl rfl (fun hc => ?_) (fun hc => ?_) | refine k_neqT rfl rfl (by omega) ?_ | refine k_neqF rfl rfl (by omega) ?_ | refine k_neq rfl rfl (fun hc => ?_) (fun hc => ?_) | refine k_len rfl rfl ?_ | refine k_ok rfl rfl ?_))
  exact ⟨.inr rfl, x6, rfl⟩
end Go.Proofs.YtlnjddjobbhcaaaDoor


