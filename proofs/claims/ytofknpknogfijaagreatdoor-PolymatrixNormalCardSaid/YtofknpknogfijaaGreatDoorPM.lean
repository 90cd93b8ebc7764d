/- Products of Laurent polynomials: plain. -/
import Derived.Test.YtofknpknogfijaaGreatDoorLP1
import Derived.Test.YtofknpknogfijaaGreatDoorW3
import Derived.Test.YtofknpknogfijaaGreatDoorAb41
namespace Go.Proofs.YtofknpknogfijaaGreatDoor
set_option linter.unusedVariables false

/-- The double sum of a product. -/
def S2 (f : Int → Int) (p q : List Tm) : Int := S (fun a => S (fun b => f (a + b)) q) p
/-- The coefficient of e in the product. -/
def mc (p q : List Tm) (e : Int) : Int := S2 (dl e) p q
theorem mc_nil (q : List Tm) (e : Int) : mc [] q e = 0 := rfl
/-- The product, from lo on, n exponents. -/
def mulL (p q : List Tm) (lo : Int) (n : Nat) : List Tm := fromC (mc p q) lo n
/-- The lowest, and the highest exponent. -/
def lo0 (p : List Tm) : Int := match p with | [] => 0 | t :: _ => t.1
def hi0 (p : List Tm) : Int := match p.getLast? with | none => 0 | some t => t.1
theorem cf_mem {p : List Tm} (h : Can p) : ∀ {t : Tm}, t ∈ p → cf p t.1 = t.2 := by
  induction p with
  | nil => intro t ht; simp at ht
  | cons u r ih =>
    intro t ht
    rcases List.mem_cons.1 ht with rfl | ht
    · exact h.cf_head
    · rw [cf_cons, dl_ne (by have := h.lt t ht; omega), ih h.tail ht]; omega
theorem cf_ne {p : List Tm} {e : Int} (h : cf p e ≠ 0) : ∃ t ∈ p, t.1 = e := by
  refine Classical.byContradiction fun hn => h (cf_none fun t ht he => hn ⟨t, ht, he⟩)
/-! ### Bounds -/
theorem cf_abs {p : List Tm} (h : Can p) {M : Nat} (hb : ∀ t ∈ p, t.2.natAbs ≤ M) (e : Int) : (cf p e).natAbs ≤ M := by
  by_cases h0 : cf p e = 0
  · rw [h0]; exact Nat.zero_le _
  · obtain ⟨t, h1, h2⟩ := cf_ne h0
    rw [← h2, cf_mem h h1]; exact hb t h1
end Go.Proofs.YtofknpknogfijaaGreatDoor


namespace Go.Proofs.YtofknpknogfijaaGreatDoor
set_option linter.unusedVariables false

/-- What is left of the dividend, at its exponent number k. -/
def rk (p q r : List Tm) (k : Nat) : Int := cf p (lo0 p + k) - mc r q (lo0 p + k)
/-- The quotient, as far as the first i exponents. -/
def dvL (p q : List Tm) (M X : Nat) : Nat → Option (List Tm)
  | 0 => some []
  | i + 1 => (dvL p q M X i).bind fun r =>
    if rk p q r i = 0 then some r
    else if rk p q r i % cf q (lo0 q) = 0 ∧ (rk p q r i / cf q (lo0 q)).natAbs ≤ M ∧ (lo0 p - lo0 q + i).natAbs ≤ X then some (r ++ [(lo0 p - lo0 q + i, rk p q r i / cf q (lo0 q))]) else none
/-- The steps of the division. -/
def dvN (p q : List Tm) : Int := hi0 p - lo0 p - (hi0 q - lo0 q)
structure DvOk (p q : List Tm) (M X i : Nat) (r : List Tm) : Prop where
  can : Can r
  rng : ∀ t ∈ r, lo0 p - lo0 q ≤ t.1 ∧ t.1 < lo0 p - lo0 q + i
  bd : ∀ t ∈ r, t.2.natAbs ≤ M ∧ t.1.natAbs ≤ X
  zero : ∀ k, k < i → rk p q r k = 0
/-- The quotient, if the division comes out even. -/
noncomputable def dvR (p q : List Tm) (M X : Nat) : Option (List Tm) := open Classical in
  if dvN p q < 0 then none else (dvL p q M X ((dvN p q).toNat + 1)).bind fun r => if ∀ k : Nat, (dvN p q).toNat < k → (k : Int) ≤ hi0 p - lo0 p → rk p q r k = 0 then some r else none
end Go.Proofs.YtofknpknogfijaaGreatDoor



namespace Go.Proofs.YtofknpknogfijaaGreatDoor
open Go.Ab
set_option linter.unusedVariables false
set_option linter.unusedSimpArgs false
set_option maxRecDepth 20000
set_option maxHeartbeats 4000000
attribute [local irreducible] wOps wA wSeq wBlk wRound wRoundI wOpsD wOpsS
set_option linter.unusedSectionVars false
variable [HB]

/-- What small answers. -/
def smV (v : Int) : Int := if v.natAbs ≤ 1125899906842624 then v else 0
/-- What quotient answers. -/
def quoOk (v c : Int) : Prop := c ∣ v ∧ (v / c).natAbs ≤ 1125899906842624
instance (v c : Int) : Decidable (quoOk v c) := inferInstanceAs (Decidable (_ ∧ _))
end Go.Proofs.YtofknpknogfijaaGreatDoor


namespace Go.Proofs.YtofknpknogfijaaGreatDoor
open Go.Ab
set_option linter.unusedVariables false
set_option linter.unusedSimpArgs false
set_option maxRecDepth 20000
set_option maxHeartbeats 4000000
attribute [local irreducible] wOps wA wSeq wBlk wRound wRoundI wOpsD wOpsS
set_option linter.unusedSectionVars false
variable [HB]

/-- The limits. -/
abbrev cM : Nat := 1125899906842624
abbrev eM : Nat := 1048576
def tmP (t : Tm) : P2 := (.int .i64 t.1, .int .i64 t.2)
abbrev tms (ts : List Tm) : List P2 := ts.map tmP
/-- A polynomial. -/
structure Pol where
  big : Bool
  ts : List Tm
  deriving DecidableEq
def IsPol (h : Heap) (v : AV) (p : Pol) : Prop := ∃ s, v = .agg [.bool p.big, s] ∧ IsD h s (tms p.ts)
/-- Well formed. -/
structure Pok (p : Pol) : Prop where
  big : p.big = true → p.ts = []
  can : Can p.ts
  cf : ∀ t ∈ p.ts, t.2.natAbs ≤ cM
  ex : ∀ t ∈ p.ts, t.1.natAbs ≤ eM
abbrev bigP : Pol := ⟨true, []⟩
abbrev zeroP : Pol := ⟨false, []⟩
theorem bigP_ok : Pok bigP := ⟨fun _ => rfl, .nil, by simp, by simp⟩
theorem zeroP_ok : Pok zeroP := ⟨fun _ => rfl, .nil, by simp, by simp⟩
/-- Exponents in an interval of n: at most n terms. -/
theorem can_len : ∀ {ts : List Tm} {lo : Int} {n : Nat}, Can ts → (∀ t ∈ ts, lo ≤ t.1 ∧ t.1 < lo + n) → ts.length ≤ n
  | [], _, _, _, _ => Nat.zero_le _
  | t :: r, lo, n, hc, h => by
    have h0 := h t (.head _)
    have ih := can_len (lo := t.1 + 1) (n := (lo + n - (t.1 + 1)).toNat) hc.tail fun u hu => by
      have h1 := hc.lt u hu
      have h2 := (h u (.tail _ hu)).2
      omega
    rw [List.length_cons]; omega
theorem Pok.len {p : Pol} (k : Pok p) : p.ts.length ≤ 2097153 :=
  can_len (lo := -1048576) (n := 2097153) k.can fun t ht => by have := k.ex t ht; simp only [eM] at this; omega
theorem tms_len (ts : List Tm) : (tms ts).length = ts.length := by simp
/-! ### Big, Zero, Low, High, within -/
theorem call39 (h0 : Heap) (b : Bool) (s : SV) : ∃ r h', Cal FT HKt 39 [.agg [.bool b, s]] h0 r h' ∧ Ext h0 h' ∧ r = .sc (.bool b) := by
  refine Cal.of (F := a39) rfl rfl rfl ?_
  repeat' (first | refine w_seq ?_ | refine w_seqN ?_ | refine w_ret ?_ | refine w_ops ?_ | ((refine i_nil ?_); refine w_end1 rfl ?_) | ((refine i_cons ?_); first | (refine k_boxC rfl ?_; intro h1 e1 c1) | refine k_ldC0 rfl c1 ?_ | refine k_mv rfl ?_ | refine k_ok rfl rfl ?_))
  exact ⟨.inr rfl, e1, rfl⟩
theorem call14 (h0 : Heap) (b : Bool) (s : SV) (ts : List Tm) (hs : IsD h0 s (tms ts)) : ∃ r h', Cal FT HKt 14 [.agg [.bool b, s]] h0 r h' ∧ Ext h0 h' ∧ r = .sc (.bool (!b && decide (ts = []))) := by
  refine Cal.of (F := a14) rfl rfl rfl ?_
  have ls := hs.len
  rw [tms_len] at ls
  cases b with
  | true =>
    repeat' (first | refine w_seq ?_ | refine w_seqN ?_ | refine w_ret ?_ | refine w_ops ?_ | ((refine i_nil ?_); refine w_end1 rfl ?_) | ((refine i_cons ?_); first | (refine k_boxC rfl ?_; intro h1 e1 c1) | refine k_ldC0 rfl c1 ?_ | refine k_skip rfl ?_ | refine k_mv rfl ?_ | refine k_pickF rfl rfl ?_ | refine k_notT rfl ?_ | refine k_ok rfl rfl ?_))
    exact ⟨.inr rfl, e1, rfl⟩
  | false =>
    cases ts with
    | nil =>
      rw [List.length_nil] at ls
      repeat' (first | refine w_seq ?_ | refine w_seqN ?_ | refine w_ret ?_ | refine w_ops ?_ | ((refine i_nil ?_); refine w_end1 rfl ?_) | ((refine i_cons ?_); first | (refine k_boxC rfl ?_; intro h1 e1 c1) | refine k_ldC0 rfl c1 ?_ | refine k_ldC1 rfl c1 ?_ | refine k_len rfl ls ?_ | refine k_want rfl ?_ | refine k_mv rfl ?_ | refine k_pickT rfl rfl ?_ | refine k_notF rfl ?_ | refine k_eqlT rfl rfl (by omega) ?_ | refine k_ok rfl rfl ?_))
      exact ⟨.inr rfl, e1, rfl⟩
    | cons t r =>
      rw [List.length_cons] at ls
      repeat' (first | refine w_seq ?_ | refine w_seqN ?_ | refine w_ret ?_ | refine w_ops ?_ | ((refine i_nil ?_); refine w_end1 rfl ?_) | ((refine i_cons ?_); first | (refine k_boxC rfl ?_; intro h1 e1 c1) | refine k_ldC0 rfl c1 ?_ | refine k_ldC1 rfl c1 ?_ | refine k_len rfl ls ?_ | refine k_want rfl ?_ | refine k_mv rfl ?_ | refine k_pickT rfl rfl ?_ | refine k_notF rfl ?_ | refine k_eqlF rfl rfl (by omega) ?_ | refine k_ok rfl rfl ?_))
      exact ⟨.inr rfl, e1, by simp; rfl⟩
theorem rd1 {h : Heap} {id off : Nat} {a b : SV} (hr : readN h id off 2 = some [a, b]) : readN h id off 1 = some [a] ∧ readN h id (off + 1) 1 = some [b] := by
  unfold readN at hr ⊢
  split at hr
  · unfold cut at hr ⊢
    split at hr
    · rename_i hle
      simp only [Option.some.injEq] at hr
      rw [if_pos (by omega), if_pos (by omega)]
      refine ⟨?_, ?_⟩
      · have := congrArg (List.take 1) hr
        rw [List.take_take] at this
        simpa using this
      · have := congrArg (List.drop 1) hr
        rw [List.drop_take, List.drop_drop] at this
        simpa using this
    · cases hr
  · cases hr
theorem call53 (h0 : Heap) (b : Bool) (s : SV) (ts : List Tm) (hs : IsD h0 s (tms ts)) : ∃ r h', Cal FT HKt 53 [.agg [.bool b, s]] h0 r h' ∧ Ext h0 h' ∧ r = .sc (.int .i64 (lo0 ts)) := by
  refine Cal.of (F := a53) rfl rfl rfl ?_
  have ls := hs.len
  rw [tms_len] at ls
  cases ts with
  | nil =>
    rw [List.length_nil] at ls
    repeat' (first | refine w_seq ?_ | refine w_seqN ?_ | refine w_seqR ?_ | refine w_ret ?_ | refine w_ops ?_ | ((refine i_cond ?_); refine w_condT rfl ?_) | ((refine i_nil ?_); first | refine w_end1 rfl ?_ | refine w_end2 rfl rfl ?_) | ((refine i_cons ?_); first | (refine k_boxC rfl ?_; intro h1 e1 c1) | refine k_ldC1 rfl c1 ?_ | refine k_len rfl ls ?_ | refine k_mv rfl ?_ | refine k_eqlT rfl rfl (by omega) ?_ | refine k_ok rfl rfl ?_))
    exact ⟨.inr rfl, e1, rfl⟩
  | cons t r =>
    rw [List.length_cons] at ls
    obtain ⟨id, off, cap, e, hr⟩ := hs.at (i := 0) (p := tmP t) rfl
    rw [tms_len, List.length_cons] at e
    subst e
    have hr1 := fun H (e : Ext h0 H) => readN_ext e (rd1 hr).1
    repeat' (first | refine w_seq ?_ | refine w_seqN ?_ | refine w_skip ?_ | refine w_ret ?_ | refine w_ops ?_ | ((refine i_cond ?_); refine w_condF rfl ?_) | ((refine i_nil ?_); first | refine w_end1 rfl ?_ | refine w_end2 rfl rfl ?_) | ((refine i_cons ?_); first | (refine k_boxC rfl ?_; intro h1 e1 c1) | refine k_ldC1 rfl c1 ?_ | refine k_len rfl ls ?_ | refine k_idxA (esz := 2) rfl rfl (by omega) ?_ | refine k_fldA rfl ?_ | refine k_ld rfl (hr1 _ e1) ?_ | refine k_mv rfl ?_ | refine k_eqlF rfl rfl (by omega) ?_))
    exact ⟨.inr rfl, e1, rfl⟩
theorem call50 (h0 : Heap) (v l : Int) (hl : 0 ≤ l ∧ l ≤ 9223372036854775807) : ∃ r h', Cal FT HKt 50 [.sc (.int .i64 v), .sc (.int .i64 l)] h0 r h' ∧ r = .sc (.bool (decide (v.natAbs ≤ l.toNat))) ∧ h' = h0 := by
  refine Cal.of (F := a50) rfl rfl rfl ?_
  by_cases h : v.natAbs ≤ l.toNat
  · rw [decide_eq_true h]
    repeat' (first | refine w_seq ?_ | refine w_seqN ?_ | refine w_ret ?_ | refine w_ops ?_ | ((refine i_nil ?_); first | refine w_end1 rfl ?_ | refine w_end2 rfl rfl ?_) | ((refine i_cons ?_); first | refine k_want rfl ?_ | refine k_mv rfl ?_ | refine k_pickT rfl rfl ?_ | refine k_neg rfl (by omega) ?_ | refine k_leqT rfl rfl (by omega) ?_ | refine k_geqT rfl rfl (by omega) ?_))
    exact ⟨.inr rfl, rfl, rfl⟩
  · rw [decide_eq_false h]
    by_cases h2 : -l ≤ v
    · repeat' (first | refine w_seq ?_ | refine w_seqN ?_ | refine w_ret ?_ | refine w_ops ?_ | ((refine i_nil ?_); first | refine w_end1 rfl ?_ | refine w_end2 rfl rfl ?_) | ((refine i_cons ?_); first | refine k_want rfl ?_ | refine k_mv rfl ?_ | refine k_pickT rfl rfl ?_ | refine k_neg rfl (by omega) ?_ | refine k_leqF rfl rfl (by omega) ?_ | refine k_geqT rfl rfl (by omega) ?_))
      exact ⟨.inr rfl, rfl, rfl⟩
    · repeat' (first | refine w_seq ?_ | refine w_seqN ?_ | refine w_ret ?_ | refine w_ops ?_ | ((refine i_nil ?_); first | refine w_end1 rfl ?_ | refine w_end2 rfl rfl ?_) | ((refine i_cons ?_); first | refine k_skip rfl ?_ | refine k_mv rfl ?_ | refine k_pickF rfl rfl ?_ | refine k_neg rfl (by omega) ?_ | refine k_geqF rfl rfl (by omega) ?_))
      exact ⟨.inr rfl, rfl, rfl⟩
end Go.Proofs.YtofknpknogfijaaGreatDoor


