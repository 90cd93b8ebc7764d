/- Text: its contract. -/
import Derived.Test.YtofknpknogfijaaGreatDoorO3
namespace Go.Proofs.YtofknpknogfijaaGreatDoor
open Go.Ab
set_option linter.unusedVariables false
set_option linter.unusedSimpArgs false
set_option maxRecDepth 20000
set_option maxHeartbeats 4000000
attribute [local irreducible] wOps wA wSeq wBlk wRound wRoundI wOpsD wOpsS
set_option linter.unusedSectionVars false
variable [HB]

def I15 (hb : Heap) (B : Nat) (nm : List UInt8) (s : SV) (ts : List Tm) (E : Env) (h : Heap) : Prop := ∃ i : Nat, i ≤ ts.length ∧ BL hb h B (txtN nm ts i) ∧
  E.keep [1, 5, 18, 19, 20] = [(1, some (.sc (tb nm))), (5, some (.sc (.ptr B 0))), (18, some (.sc s)), (19, some (.sc (.int .i64 (ts.length : Nat)))), (20, some (.sc (.int .i64 (i : Nat))))]
def R15 (hb : Heap) (B : Nat) (nm : List UInt8) (ts : List Tm) (ex : Ex) (E : Env) (h : Heap) : Prop := BL hb h B (txtN nm ts ts.length) ∧
  ex = .ex 1 ∧ ∃ a b c d e, E = [(1, a), (5, some (.sc (.ptr B 0))), (18, b), (19, c), (20, d), (21, e)]
theorem round15 (hb : Heap) (B : Nat) (s : SV) (nm : List UInt8) (hn : nm.length ≤ 40) (ts : List Tm) (hs : IsD hb s (tms ts)) (hl : ts.length ≤ 1000) (hc : ∀ t ∈ ts, t.2.natAbs ≤ cM) (he : ∀ t ∈ ts, t.1.natAbs ≤ eM) (E : Env) (h : Heap) (hI : I15 hb B nm s ts E h) :
    wA FT HKt b15L0 (E.keep [1, 5, 18, 19, 20]) h (wRound (I15 hb B nm s ts) (cK [1, 5, 18, 19, 20] ts.length 20) (cK [1, 5, 18, 19, 20] ts.length 20 E h) (R15 hb B nm ts)) := by
  obtain ⟨i, hi, b0, hE⟩ := hI
  have hm : cK [1, 5, 18, 19, 20] ts.length 20 E h = ts.length - i := by unfold cK; rw [hE]; rfl
  rw [hm, hE]
  by_cases hlt : i < ts.length
  · obtain ⟨t, ht⟩ : ∃ t, ts[i]? = some t := ⟨_, List.getElem?_eq_getElem hlt⟩
    obtain ⟨id, off, cap, e1, r0⟩ := hs.at (i := i) (p := tmP t) (by simp [ht])
    rw [tms_len] at e1
    subst e1
    have r1 := readN_ext b0.ext r0
    have hc1 : t.2.natAbs ≤ 1125899906842624 := hc t (List.mem_of_getElem? ht)
    have he1 : t.1.natAbs ≤ 1048576 := he t (List.mem_of_getElem? ht)
    have l1 := txtN_len hn hc he i hi
    have l2 := itoa_l hc1
    have l3 := itoa_l (x := t.1) (by omega)
    have l4 := itoa_l (x := -t.2) (by omega)
    have hst := txtN_succ (nm := nm) ht
    have fin : ∀ h2 L, BL hb h2 B L → L = txtN nm ts (i + 1) → I15 hb B nm (.slc id off ts.length cap) ts [(1, some (.sc (tb nm))), (5, some (.sc (.ptr B 0))), (18, some (.sc (.slc id off ts.length cap))), (19, some (.sc (.int .i64 (ts.length : Nat)))), (20, some (.sc (.int .i64 ((i : Nat) + 1))))] h2 := fun h2 L b2 eL => ⟨i + 1, by omega, by rw [← eL]; exact b2, rfl⟩
    repeat' (first | refine w_seq ?_ | refine w_seqN ?_ | refine w_blk ?_ | refine w_blkN ?_ | refine w_skip ?_ | refine w_ops ?_ | ((refine i_cond ?_); first | refine w_condT rfl ?_ | refine w_condF rfl ?_) | ((refine i_nil ?_); first | refine w_end5 rfl rfl rfl rfl rfl ?_ | refine w_end6 rfl rfl rfl rfl rfl rfl ?_ | refine w_end7 rfl rfl rfl rfl rfl rfl rfl ?_ | refine w_end8 rfl rfl rfl rfl rfl rfl rfl rfl ?_ | refine w_end9 rfl rfl rfl rfl rfl rfl rfl rfl rfl ?_) | ((refine i_cons ?_); first | refine k_idxA (esz := 2) rfl rfl (by omega) ?_ | refine k_ldD rfl r1 ?_ | (refine k_newC ?_; intro h1 e1 c1) | (refine k_stC rfl rfl c1 ?_; intro h2 w2; have b1 := BLq.of b0 (w2.ext e1 (Nat.le_refl _)) w2.cel) | refine k_fldA rfl ?_ | refine k_ldC1 rfl b1.at ?_ | refine k_ldC0 rfl b1.at ?_ | (refine k_call rfl (call41q _ _ _ _ 45 _ _ b1 (by omega)) ?_; rintro v h2 ⟨rfl, b1⟩) | (refine k_call rfl (call41q _ _ _ _ 43 _ _ b1 (by omega)) ?_; rintro v h2 ⟨rfl, b1⟩) | (refine k_call rfl (call41q _ _ _ _ 94 _ _ b1 (by simp only [List.length_append, List.length_cons, List.length_nil]; omega)) ?_; rintro v h2 ⟨rfl, b1⟩) | (refine k_call rfl (itoa_call t.1 (by omega)) ?_; rintro v _ ⟨rfl, rfl⟩) | (refine k_call rfl (itoa_call t.2 (by omega)) ?_; rintro v _ ⟨rfl, rfl⟩) | (refine k_call rfl (itoa_call (-t.2) (by omega)) ?_; rintro v _ ⟨rfl, rfl⟩) | (refine k_call rfl (call42q _ _ _ _ nm _ _ b1 (by simp only [List.length_append, List.length_cons, List.length_nil]; omega) (by omega)) ?_; rintro v h2 b1) | (refine k_call rfl (call42q _ _ _ _ nm _ _ b1 (by omega) (by omega)) ?_; rintro v h2 b1) | (refine k_call rfl (call42q _ _ _ _ (Lib.itoa _) _ _ b1 (by simp only [List.length_append, List.length_cons, List.length_nil]; omega) (by omega)) ?_; rintro v h2 b1) | (refine k_call rfl (call42q _ _ _ _ (Lib.itoa _) _ _ b1 (by omega) (by omega)) ?_; rintro v h2 b1) | refine k_skip rfl ?_ | refine k_want rfl ?_ | refine k_mv rfl ?_ | refine k_pickT rfl rfl ?_ | refine k_pickF rfl rfl ?_ | refine k_add rfl rfl (by omega) ?_ | refine k_neg rfl (by omega) ?_ | refine k_lssT rfl rfl (by omega) ?_ | refine k_lss rfl rfl (fun hc => ?_) (fun hc => ?_) | refine k_gtr rfl rfl (fun hc => ?_) (fun hc => ?_) | refine k_eql rfl rfl (fun hc => ?_) (fun hc => ?_) | refine k_neqT rfl rfl (by omega) ?_ | refine k_neqF rfl rfl (by omega) ?_ | refine k_neq rfl rfl (fun hc => ?_) (fun hc => ?_)))
    all_goals refine w_roundN (fin _ _ b1.bl ?_) (by simp [cK, Env.keep, Env.get]; omega)
    all_goals (rw [hst]; unfold tTx bodyT; repeat first | rw [if_pos (by omega)] | rw [if_neg (by omega)])
    all_goals simp only [List.append_assoc, List.append_nil, List.nil_append]
  · have : i = ts.length := by omega
    subst this
    repeat' (first | refine w_seq ?_ | refine w_seqN ?_ | refine w_seqX ?_ | refine w_exit ?_ | refine w_ops ?_ | ((refine i_cond ?_); refine w_condF rfl ?_) | ((refine i_nil ?_); refine w_end6 rfl rfl rfl rfl rfl rfl ?_) | ((refine i_cons ?_); refine k_lssF rfl rfl (by omega) ?_))
    exact w_roundX ⟨b0, rfl, _, _, _, _, _, rfl⟩
theorem call15 (h0 : Heap) (s : SV) (nm : List UInt8) (hn : nm.length ≤ 40) (p : Pol) (hs : IsD h0 s (tms p.ts)) (hl : p.ts.length ≤ 1000) (hc : ∀ t ∈ p.ts, t.2.natAbs ≤ cM) (he : ∀ t ∈ p.ts, t.1.natAbs ≤ eM) :
    ∃ r h', Cal FT HKt 15 [.agg [.bool p.big, s], .sc (tb nm)] h0 r h' ∧ Ext h0 h' ∧ r = .sc (tb (txtP nm p)) := by
  refine Cal.of (F := a15) rfl rfl rfl ?_
  have ls := hs.len
  rw [tms_len] at ls
  cases hb : p.big with
  | true =>
    have e : txtP nm p = [98, 105, 103] := by unfold txtP; rw [if_pos hb]
    repeat' (first | refine w_seq ?_ | refine w_seqN ?_ | refine w_seqR ?_ | refine w_blk ?_ | refine w_blkR ?_ | refine w_ret ?_ | refine w_ops ?_ | ((refine i_cond ?_); refine w_condT rfl ?_) | ((refine i_nil ?_); first | refine w_end1 rfl ?_ | refine w_end2 rfl rfl ?_ | refine w_end3 rfl rfl rfl ?_) | ((refine i_cons ?_); first | (refine k_boxC rfl ?_; intro h1 e1 c1) | refine k_fldA rfl ?_ | refine k_ldC0 rfl c1 ?_ | refine k_mv rfl ?_))
    exact ⟨.inr rfl, e1, by rw [e]; rfl⟩
  | false =>
    by_cases hz : p.ts = []
    · have e : txtP nm p = [48] := by unfold txtP; rw [if_neg (by rw [hb]; decide), if_pos hz]
      rw [hz, List.length_nil] at ls
      repeat' (first | refine w_seq ?_ | refine w_seqN ?_ | refine w_seqR ?_ | refine w_blk ?_ | refine w_blkR ?_ | refine w_ret ?_ | refine w_ops ?_ | ((refine i_cond ?_); first | refine w_condT rfl ?_ | refine w_condF rfl ?_) | ((refine i_nil ?_); first | refine w_end1 rfl ?_ | refine w_end2 rfl rfl ?_ | refine w_end3 rfl rfl rfl ?_) | ((refine i_cons ?_); first | (refine k_boxC rfl ?_; intro h1 e1 c1) | refine k_fldA rfl ?_ | refine k_ldC1 rfl c1 ?_ | refine k_ldC0 rfl c1 ?_ | refine k_len rfl ls ?_ | refine k_mv rfl ?_ | refine k_eqlT rfl rfl (by omega) ?_))
      exact ⟨.inr rfl, e1, by rw [e]; rfl⟩
    · have e : txtP nm p = txtN nm p.ts p.ts.length := by unfold txtP; rw [if_neg (by rw [hb]; decide), if_neg hz]
      have hp : 0 < p.ts.length := List.length_pos_iff.2 hz
      repeat' (first | refine w_seq ?_ | refine w_seqN ?_ | refine w_blk ?_ | refine w_blkN ?_ | refine w_skip ?_ | refine w_ops ?_ | ((refine i_cond ?_); refine w_condF rfl ?_) | ((refine i_nil ?_); first | refine w_end2 rfl rfl ?_ | refine w_end3 rfl rfl rfl ?_ | refine w_end5 rfl rfl rfl rfl rfl ?_) | ((refine i_cons ?_); first | (refine k_boxC rfl ?_; intro h1 e1 c1) | refine k_fldA rfl ?_ | refine k_ldC1 rfl c1 ?_ | refine k_ldC0 rfl c1 ?_ | refine k_len rfl ls ?_ | refine k_ldC1 rfl (c1.ext ((Ext.refl _).app _)) ?_ | refine k_mv rfl ?_ | refine k_eqlF rfl rfl (by omega) ?_ | refine k_ok rfl rfl ?_))
      have hln := txtN_len hn hc he p.ts.length (Nat.le_refl _)
      refine w_loop (I15 h1 h1.length nm s p.ts) (cK [1, 5, 18, 19, 20] p.ts.length 20) (R15 h1 h1.length nm p.ts) ⟨0, Nat.zero_le _, Bld.new 77 bz (Ext.refl h1), rfl⟩ (round15 h1 h1.length s nm hn p.ts (hs.ext e1) hl hc he) ?_
      rintro ex E' h2 ⟨b2, rfl, _, _, _, _, _, rfl⟩
      repeat' (first | refine w_seq ?_ | refine w_seqN ?_ | refine w_blkX ?_ | refine w_ret ?_ | refine w_ops ?_ | ((refine i_nil ?_); refine w_end1 rfl ?_) | ((refine i_cons ?_); first | (refine k_call rfl (call44 _ _ _ _ b2 (by omega)) ?_; rintro v h3 ⟨rfl, e3⟩) | refine k_mv rfl ?_))
      exact ⟨.inr rfl, e1.trans e3, by rw [e]; rfl⟩
end Go.Proofs.YtofknpknogfijaaGreatDoor
