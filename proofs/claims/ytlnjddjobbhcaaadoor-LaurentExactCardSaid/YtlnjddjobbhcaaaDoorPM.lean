/- Polynomials in memory; the small functions, Of: contracts. -/
import Derived.Test.YtlnjddjobbhcaaaDoorW4
import Derived.Test.YtlnjddjobbhcaaaDoorLP3
import Derived.Test.YtlnjddjobbhcaaaDoorAb41
namespace Go.Proofs.YtlnjddjobbhcaaaDoor
open Go.Ab
set_option linter.unusedVariables false
set_option linter.unusedSimpArgs false
set_option maxRecDepth 20000
set_option maxHeartbeats 4000000
attribute [local irreducible] wOps wA wSeq wBlk wRound wRoundI wOpsD wOpsS

/-- The limits. -/
abbrev cM : Nat := 1125899906842624
abbrev eM : Nat := 1048576
def tmP (t : Tm) : P2 := (.int .i64 t.1, .int .i64 t.2)
abbrev tms (ts : List Tm) : List P2 := ts.map tmP
/-- A polynomial. -/
structure Pol where
  big : Bool
  ts : List Tm
  deriving DecidableEq
def IsPol (h : Heap) (v : AV) (p : Pol) : Prop := ∃ s, v = .agg [.bool p.big, s] ∧ IsD h s (tms p.ts)
theorem IsPol.ext {h h' : Heap} {v : AV} {p : Pol} (i : IsPol h v p) (e : Ext h h') : IsPol h' v p := by
  obtain ⟨s, h1, h2⟩ := i
  exact ⟨s, h1, h2.ext e⟩
/-- Well formed. -/
structure Pok (p : Pol) : Prop where
  big : p.big = true → p.ts = []
  can : Can p.ts
  cf : ∀ t ∈ p.ts, t.2.natAbs ≤ cM
  ex : ∀ t ∈ p.ts, t.1.natAbs ≤ eM
abbrev bigP : Pol := ⟨true, []⟩
abbrev zeroP : Pol := ⟨false, []⟩
theorem bigP_ok : Pok bigP := ⟨fun _ => rfl, .nil, by simp, by simp⟩
theorem zeroP_ok : Pok zeroP := ⟨fun _ => rfl, .nil, by simp, by simp⟩
/-- Exponents in an interval of n: at most n terms. -/
theorem can_len : ∀ {ts : List Tm} {lo : Int} {n : Nat}, Can ts → (∀ t ∈ ts, lo ≤ t.1 ∧ t.1 < lo + n) → ts.length ≤ n
  | [], _, _, _, _ => Nat.zero_le _
  | t :: r, lo, n, hc, h => by
    have h0 := h t (.head _)
    have ih := can_len (lo := t.1 + 1) (n := (lo + n - (t.1 + 1)).toNat) hc.tail fun u hu => by
      have h1 := hc.lt u hu
      have h2 := (h u (.tail _ hu)).2
      omega
    rw [List.length_cons]; omega
theorem Pok.len {p : Pol} (k : Pok p) : p.ts.length ≤ 2097153 :=
  can_len (lo := -1048576) (n := 2097153) k.can fun t ht => by have := k.ex t ht; simp only [eM] at this; omega
theorem tms_len (ts : List Tm) : (tms ts).length = ts.length := by simp
/-! ### Big, Zero, Low, High, within -/
theorem call14 (h0 : Heap) (b : Bool) (s : SV) : ∃ r h', Cal FT HKt 14 [.agg [.bool b, s]] h0 r h' ∧ Ext h0 h' ∧ r = .sc (.bool b) := by
  refine Cal.of (F := a14) rfl rfl rfl ?_
  repeat' (first | refine w_seq ?_ | refine w_seqN ?_ | refine w_ret ?_ | refine w_ops ?_ | ((refine i_nil ?_); refine w_end1 rfl ?_) | ((refine i_cons ?_); first | (refine k_boxC rfl ?_; intro h1 e1 c1) | refine k_ldC0 rfl c1 ?_ | refine k_mv rfl ?_ | refine k_ok rfl rfl ?_))
  exact ⟨.inr rfl, e1, rfl⟩
theorem call15 (h0 : Heap) (b : Bool) (s : SV) (ts : List Tm) (hs : IsD h0 s (tms ts)) : ∃ r h', Cal FT HKt 15 [.agg [.bool b, s]] h0 r h' ∧ Ext h0 h' ∧ r = .sc (.bool (!b && decide (ts = []))) := by
  refine Cal.of (F := a15) rfl rfl rfl ?_
  have ls := hs.len
  rw [tms_len] at ls
  cases b with
  | true =>
    repeat' (first | refine w_seq ?_ | refine w_seqN ?_ | refine w_ret ?_ | refine w_ops ?_ | ((refine i_nil ?_); refine w_end1 rfl ?_) | ((refine i_cons ?_); first | (refine k_boxC rfl ?_; intro h1 e1 c1) | refine k_ldC0 rfl c1 ?_ | refine k_skip rfl ?_ | refine k_mv rfl ?_ | refine k_pickF rfl rfl ?_ | refine k_notT rfl ?_ | refine k_ok rfl rfl ?_))
    exact ⟨.inr rfl, e1, rfl⟩
  | false =>
    cases ts with
    | nil =>
      rw [List.length_nil] at ls
      repeat' (first | refine w_seq ?_ | refine w_seqN ?_ | refine w_ret ?_ | refine w_ops ?_ | ((refine i_nil ?_); refine w_end1 rfl ?_) | ((refine i_cons ?_); first | (refine k_boxC rfl ?_; intro h1 e1 c1) | refine k_ldC0 rfl c1 ?_ | refine k_ldC1 rfl c1 ?_ | refine k_len rfl ls ?_ | refine k_want rfl ?_ | refine k_mv rfl ?_ | refine k_pickT rfl rfl ?_ | refine k_notF rfl ?_ | refine k_eqlT rfl rfl (by omega) ?_ | refine k_ok rfl rfl ?_))
      exact ⟨.inr rfl, e1, rfl⟩
    | cons t r =>
      rw [List.length_cons] at ls
      repeat' (first | refine w_seq ?_ | refine w_seqN ?_ | refine w_ret ?_ | refine w_ops ?_ | ((refine i_nil ?_); refine w_end1 rfl ?_) | ((refine i_cons ?_); first | (refine k_boxC rfl ?_; intro h1 e1 c1) | refine k_ldC0 rfl c1 ?_ | refine k_ldC1 rfl c1 ?_ | refine k_len rfl ls ?_ | refine k_want rfl ?_ | refine k_mv rfl ?_ | refine k_pickT rfl rfl ?_ | refine k_notF rfl ?_ | refine k_eqlF rfl rfl (by omega) ?_ | refine k_ok rfl rfl ?_))
      exact ⟨.inr rfl, e1, by simp; rfl⟩
theorem rd1 {h : Heap} {id off : Nat} {a b : SV} (hr : readN h id off 2 = some [a, b]) : readN h id off 1 = some [a] ∧ readN h id (off + 1) 1 = some [b] := by
  unfold readN at hr ⊢
  split at hr
  · unfold cut at hr ⊢
    split at hr
    · rename_i hle
      simp only [Option.some.injEq] at hr
      rw [if_pos (by omega), if_pos (by omega)]
      refine ⟨?_, ?_⟩
      · have := congrArg (List.take 1) hr
        rw [List.take_take] at this
        simpa using this
      · have := congrArg (List.drop 1) hr
        rw [List.drop_take, List.drop_drop] at this
        simpa using this
    · cases hr
  · cases hr
theorem call27 (h0 : Heap) (b : Bool) (s : SV) (ts : List Tm) (hs : IsD h0 s (tms ts)) : ∃ r h', Cal FT HKt 27 [.agg [.bool b, s]] h0 r h' ∧ Ext h0 h' ∧ r = .sc (.int .i64 (lo0 ts)) := by
  refine Cal.of (F := a27) rfl rfl rfl ?_
  have ls := hs.len
  rw [tms_len] at ls
  cases ts with
  | nil =>
    rw [List.length_nil] at ls
    repeat' (first | refine w_seq ?_ | refine w_seqN ?_ | refine w_seqR ?_ | refine w_ret ?_ | refine w_ops ?_ | ((refine i_cond ?_); refine w_condT rfl ?_) | ((refine i_nil ?_); first | refine w_end1 rfl ?_ | refine w_end2 rfl rfl ?_) | ((refine i_cons ?_); first | (refine k_boxC rfl ?_; intro h1 e1 c1) | refine k_ldC1 rfl c1 ?_ | refine k_len rfl ls ?_ | refine k_mv rfl ?_ | refine k_eqlT rfl rfl (by omega) ?_ | refine k_ok rfl rfl ?_))
    exact ⟨.inr rfl, e1, rfl⟩
  | cons t r =>
    rw [List.length_cons] at ls
    obtain ⟨id, off, cap, e, hr⟩ := hs.at (i := 0) (p := tmP t) rfl
    rw [tms_len, List.length_cons] at e
    subst e
    have hr1 := fun H (e : Ext h0 H) => readN_ext e (rd1 hr).1
    repeat' (first | refine w_seq ?_ | refine w_seqN ?_ | refine w_skip ?_ | refine w_ret ?_ | refine w_ops ?_ | ((refine i_cond ?_); refine w_condF rfl ?_) | ((refine i_nil ?_); first | refine w_end1 rfl ?_ | refine w_end2 rfl rfl ?_) | ((refine i_cons ?_); first | (refine k_boxC rfl ?_; intro h1 e1 c1) | refine k_ldC1 rfl c1 ?_ | refine k_len rfl ls ?_ | refine k_idxA (esz := 2) rfl rfl (by omega) ?_ | refine k_fldA rfl ?_ | refine k_ld rfl (hr1 _ e1) ?_ | refine k_mv rfl ?_ | refine k_eqlF rfl rfl (by omega) ?_))
    exact ⟨.inr rfl, e1, rfl⟩
theorem call35 (h0 : Heap) (v l : Int) (hl : 0 ≤ l ∧ l ≤ 9223372036854775807) : ∃ r h', Cal FT HKt 35 [.sc (.int .i64 v), .sc (.int .i64 l)] h0 r h' ∧ r = .sc (.bool (decide (v.natAbs ≤ l.toNat))) ∧ h' = h0 := by
  refine Cal.of (F := a35) rfl rfl rfl ?_
  by_cases h : v.natAbs ≤ l.toNat
  · rw [decide_eq_true h]
    repeat' (first | refine w_seq ?_ | refine w_seqN ?_ | refine w_ret ?_ | refine w_ops ?_ | ((refine i_nil ?_); first | refine w_end1 rfl ?_ | refine w_end2 rfl rfl ?_) | ((refine i_cons ?_); first | refine k_want rfl ?_ | refine k_mv rfl ?_ | refine k_pickT rfl rfl ?_ | refine k_neg rfl (by omega) ?_ | refine k_leqT rfl rfl (by omega) ?_ | refine k_geqT rfl rfl (by omega) ?_))
    exact ⟨.inr rfl, rfl, rfl⟩
  · rw [decide_eq_false h]
    by_cases h2 : -l ≤ v
    · repeat' (first | refine w_seq ?_ | refine w_seqN ?_ | refine w_ret ?_ | refine w_ops ?_ | ((refine i_nil ?_); first | refine w_end1 rfl ?_ | refine w_end2 rfl rfl ?_) | ((refine i_cons ?_); first | refine k_want rfl ?_ | refine k_mv rfl ?_ | refine k_pickT rfl rfl ?_ | refine k_neg rfl (by omega) ?_ | refine k_leqF rfl rfl (by omega) ?_ | refine k_geqT rfl rfl (by omega) ?_))
      exact ⟨.inr rfl, rfl, rfl⟩
    · repeat' (first | refine w_seq ?_ | refine w_seqN ?_ | refine w_ret ?_ | refine w_ops ?_ | ((refine i_nil ?_); first | refine w_end1 rfl ?_ | refine w_end2 rfl rfl ?_) | ((refine i_cons ?_); first | refine k_skip rfl ?_ | refine k_mv rfl ?_ | refine k_pickF rfl rfl ?_ | refine k_neg rfl (by omega) ?_ | refine k_geqF rfl rfl (by omega) ?_))
      exact ⟨.inr rfl, rfl, rfl⟩
end Go.Proofs.YtlnjddjobbhcaaaDoor
