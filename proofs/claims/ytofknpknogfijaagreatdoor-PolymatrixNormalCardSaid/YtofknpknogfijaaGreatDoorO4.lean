/- The reference's Text. -/
import Derived.Test.YtofknpknogfijaaGreatDoorO3
namespace Go.Proofs.YtofknpknogfijaaGreatDoor
open Go.Ab
set_option linter.unusedVariables false
set_option linter.unusedSimpArgs false
set_option maxRecDepth 20000
set_option maxHeartbeats 4000000
attribute [local irreducible] wOps wA wSeq wBlk wRound wRoundI wOpsD wOpsS
set_option linter.unusedSectionVars false
variable [HB]

def I16 (h0 : Heap) (q2 : Nat) (nm : List UInt8) (ts : List Tm) (E : Env) (h : Heap) : Prop := ∃ i : Nat, i ≤ ts.length ∧ Ext h0 h ∧
  E.keep [1, 2, 5, 6] = [(1, some (.sc (tb nm))), (2, some (.sc (.ptr q2 0))), (5, some (.sc (tb (txtN nm ts i)))), (6, some (.sc (.int .i64 (i : Nat))))]
def R16 (h0 : Heap) (nm : List UInt8) (ts : List Tm) (ex : Ex) (E : Env) (h : Heap) : Prop := Ext h0 h ∧
  ex = .ex 0 ∧ ∃ a b c d, E = [(1, a), (2, b), (5, some (.sc (tb (txtN nm ts ts.length)))), (6, c), (19, d)]
theorem round16 (h0 : Heap) (q2 : Nat) (b : Bool) (s : SV) (nm : List UInt8) (hn : nm.length ≤ 40) (ts : List Tm) (hs : IsD h0 s (tms ts)) (c2 : Cel h0 q2 s (.bool b)) (hl : ts.length ≤ 1000) (hc : ∀ t ∈ ts, t.2.natAbs ≤ cM) (he : ∀ t ∈ ts, t.1.natAbs ≤ eM) (E : Env) (h : Heap) (hI : I16 h0 q2 nm ts E h) :
    wA FT HKt b16L0 (E.keep [1, 2, 5, 6]) h (wRound (I16 h0 q2 nm ts) (cK [1, 2, 5, 6] ts.length 6) (cK [1, 2, 5, 6] ts.length 6 E h) (R16 h0 nm ts)) := by
  obtain ⟨i, hi, e0, hE⟩ := hI
  have hm : cK [1, 2, 5, 6] ts.length 6 E h = ts.length - i := by unfold cK; rw [hE]; rfl
  rw [hm, hE]
  have ls := hs.len
  rw [tms_len] at ls
  have d2 := c2.ext e0
  by_cases hlt : i < ts.length
  · obtain ⟨t, ht⟩ : ∃ t, ts[i]? = some t := ⟨_, List.getElem?_eq_getElem hlt⟩
    obtain ⟨id, off, cap, e1, r0⟩ := hs.at (i := i) (p := tmP t) (by simp [ht])
    rw [tms_len] at e1
    subst e1
    have r1 := readN_ext e0 r0
    have hc1 : t.2.natAbs ≤ 1125899906842624 := hc t (List.mem_of_getElem? ht)
    have he1 : t.1.natAbs ≤ 1048576 := he t (List.mem_of_getElem? ht)
    have l1 := txtN_len hn hc he i hi
    have l2 := itoa_l hc1
    have l3 := itoa_l (x := t.1) (by omega)
    have l4 := itoa_l (x := -t.2) (by omega)
    have hst := txtN_succ (nm := nm) ht
    have fin : ∀ h2 L, Ext h0 h2 → L = txtN nm ts (i + 1) → I16 h0 q2 nm ts [(1, some (.sc (tb nm))), (2, some (.sc (.ptr q2 0))), (5, some (.sc (tb L))), (6, some (.sc (.int .i64 ((i : Nat) + 1))))] h2 := fun h2 L e2 eL => ⟨i + 1, by omega, e2, by rw [eL]; rfl⟩
    repeat' (first | refine w_seq ?_ | refine w_seqN ?_ | refine w_blk ?_ | refine w_blkN ?_ | refine w_skip ?_ | refine w_ops ?_ | ((refine i_cond ?_); first | refine w_condT rfl ?_ | refine w_condF rfl ?_) | ((refine i_nil ?_); first | refine w_end4 rfl rfl rfl rfl ?_ | refine w_end5 rfl rfl rfl rfl rfl ?_ | refine w_end6 rfl rfl rfl rfl rfl rfl ?_ | refine w_end7 rfl rfl rfl rfl rfl rfl rfl ?_) | ((refine i_cons ?_); first | refine k_fldA rfl ?_ | refine k_ldC0 rfl d2 ?_ | refine k_len rfl ls ?_ | refine k_idxA (esz := 2) rfl rfl (by omega) ?_ | refine k_ldD rfl r1 ?_ | (refine k_newst rfl ?_; intro h1 e2 c7) | refine k_ldC1 rfl c7 ?_ | refine k_ldC0 rfl c7 ?_ | refine k_cat rfl (show _ = some (tb [45]) from rfl) (by simp only [List.length_append, List.length_cons, List.length_nil]; omega) ?_ | refine k_cat rfl (show _ = some (tb [43]) from rfl) (by simp only [List.length_append, List.length_cons, List.length_nil]; omega) ?_ | refine k_cat rfl (show _ = some (tb [94]) from rfl) (by simp only [List.length_append, List.length_cons, List.length_nil]; omega) ?_ | refine k_cat rfl rfl (by omega) ?_ | refine k_cat rfl rfl (by simp only [List.length_append, List.length_cons, List.length_nil]; omega) ?_ | (refine k_call rfl (dec81 _ t.1 (by omega)) ?_; rintro v _ ⟨rfl, rfl⟩) | (refine k_call rfl (dec81 _ t.2 (by omega)) ?_; rintro v _ ⟨rfl, rfl⟩) | (refine k_call rfl (dec81 _ (-t.2) (by omega)) ?_; rintro v _ ⟨rfl, rfl⟩) | refine k_skip rfl ?_ | refine k_want rfl ?_ | refine k_mv rfl ?_ | refine k_pickT rfl rfl ?_ | refine k_pickF rfl rfl ?_ | refine k_add rfl rfl (by omega) ?_ | refine k_neg rfl (by omega) ?_ | refine k_lssT rfl rfl (by omega) ?_ | refine k_lss rfl rfl (fun hc => ?_) (fun hc => ?_) | refine k_gtr rfl rfl (fun hc => ?_) (fun hc => ?_) | refine k_eql rfl rfl (fun hc => ?_) (fun hc => ?_) | refine k_neqT rfl rfl (by omega) ?_ | refine k_neqF rfl rfl (by omega) ?_ | refine k_neq rfl rfl (fun hc => ?_) (fun hc => ?_)))
    all_goals refine w_roundN (fin _ _ (e0.trans e2) ?_) (by simp [cK, Env.keep, Env.get]; omega)
    all_goals (rw [hst]; unfold tTx bodyT; repeat first | rw [if_pos (by omega)] | rw [if_neg (by omega)])
    all_goals simp only [List.append_assoc, List.append_nil, List.nil_append]
  · have : i = ts.length := by omega
    subst this
    repeat' (first | refine w_seq ?_ | refine w_seqN ?_ | refine w_seqX ?_ | refine w_exit ?_ | refine w_ops ?_ | ((refine i_cond ?_); refine w_condF rfl ?_) | ((refine i_nil ?_); refine w_end5 rfl rfl rfl rfl rfl ?_) | ((refine i_cons ?_); first | refine k_fldA rfl ?_ | refine k_ldC0 rfl d2 ?_ | refine k_len rfl ls ?_ | refine k_mv rfl ?_ | refine k_lssF rfl rfl (by omega) ?_))
    exact w_roundX ⟨e0, rfl, _, _, _, _, rfl⟩
theorem call16 (h0 : Heap) (b : Bool) (s : SV) (nm : List UInt8) (hn : nm.length ≤ 40) (p : Pol) (hb : p.big = b) (hs : IsD h0 s (tms p.ts)) (hl : p.ts.length ≤ 1000) (hc : ∀ t ∈ p.ts, t.2.natAbs ≤ cM) (he : ∀ t ∈ p.ts, t.1.natAbs ≤ eM) :
    ∃ r h', Cal FT HKt 16 [.agg [s, .bool b], .sc (tb nm)] h0 r h' ∧ Ext h0 h' ∧ r = .sc (tb (txtP nm p)) := by
  refine Cal.of (F := a16) rfl rfl rfl ?_
  have ls := hs.len
  rw [tms_len] at ls
  cases b with
  | true =>
    have e : txtP nm p = [98, 105, 103] := by unfold txtP; rw [if_pos hb]
    repeat' (first | refine w_seq ?_ | refine w_seqN ?_ | refine w_seqR ?_ | refine w_ret ?_ | refine w_ops ?_ | ((refine i_cond ?_); refine w_condT rfl ?_) | ((refine i_nil ?_); first | refine w_end1 rfl ?_ | refine w_end2 rfl rfl ?_ | refine w_end3 rfl rfl rfl ?_) | ((refine i_cons ?_); first | (refine k_boxC rfl ?_; intro h1 e1 c1) | refine k_fldA rfl ?_ | refine k_ldC1 rfl c1 ?_ | refine k_mv rfl ?_))
    exact ⟨.inr rfl, e1, by rw [e]; rfl⟩
  | false =>
    by_cases hz : p.ts = []
    · have e : txtP nm p = [48] := by unfold txtP; rw [if_neg (by rw [hb]; decide), if_pos hz]
      rw [hz, List.length_nil] at ls
      repeat' (first | refine w_seq ?_ | refine w_seqN ?_ | refine w_seqR ?_ | refine w_skip ?_ | refine w_ret ?_ | refine w_ops ?_ | ((refine i_cond ?_); first | refine w_condT rfl ?_ | refine w_condF rfl ?_) | ((refine i_nil ?_); first | refine w_end1 rfl ?_ | refine w_end2 rfl rfl ?_ | refine w_end3 rfl rfl rfl ?_) | ((refine i_cons ?_); first | (refine k_boxC rfl ?_; intro h1 e1 c1) | refine k_fldA rfl ?_ | refine k_ldC1 rfl c1 ?_ | refine k_ldC0 rfl c1 ?_ | refine k_len rfl ls ?_ | refine k_mv rfl ?_ | refine k_eqlT rfl rfl (by omega) ?_))
      exact ⟨.inr rfl, e1, by rw [e]; rfl⟩
    · have e : txtP nm p = txtN nm p.ts p.ts.length := by unfold txtP; rw [if_neg (by rw [hb]; decide), if_neg hz]
      have hp : 0 < p.ts.length := List.length_pos_iff.2 hz
      repeat' (first | refine w_seq ?_ | refine w_seqN ?_ | refine w_blk ?_ | refine w_skip ?_ | refine w_ops ?_ | ((refine i_cond ?_); refine w_condF rfl ?_) | ((refine i_nil ?_); first | refine w_end2 rfl rfl ?_ | refine w_end3 rfl rfl rfl ?_ | refine w_end4 rfl rfl rfl rfl ?_) | ((refine i_cons ?_); first | (refine k_boxC rfl ?_; intro h1 e1 c1) | refine k_fldA rfl ?_ | refine k_ldC1 rfl c1 ?_ | refine k_ldC0 rfl c1 ?_ | refine k_len rfl ls ?_ | refine k_mv rfl ?_ | refine k_eqlF rfl rfl (by omega) ?_))
      refine w_loop (I16 h1 h0.length nm p.ts) (cK [1, 2, 5, 6] p.ts.length 6) (R16 h1 nm p.ts) ⟨0, Nat.zero_le _, Ext.refl _, rfl⟩ (round16 h1 h0.length false s nm hn p.ts (hs.ext e1) c1 hl hc he) ?_
      rintro ex E' h2 ⟨e2, rfl, _, _, _, _, rfl⟩
      repeat' (first | refine w_seq ?_ | refine w_seqN ?_ | refine w_blkX ?_ | refine w_ret ?_ | refine w_ops ?_ | ((refine i_nil ?_); refine w_end1 rfl ?_) | ((refine i_cons ?_); refine k_mv rfl ?_))
      exact ⟨.inr rfl, e1.trans e2, by rw [e]; rfl⟩
end Go.Proofs.YtofknpknogfijaaGreatDoor
