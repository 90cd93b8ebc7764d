/- The reference's Drawn, Ints, Equal: contracts. -/
import Derived.Test.YtooafhbjbpaacaaD1
import Derived.Test.YtooafhbjbpaacaaD4
import Derived.Test.YtooafhbjbpaacaaAb38
namespace Go.Proofs.Ytooafhbjbpaacaa
open Go.Ab
set_option linter.unusedVariables false
set_option linter.unusedSimpArgs false
set_option maxRecDepth 20000
set_option maxHeartbeats 4000000
attribute [local irreducible] wOps wA wSeq wBlk wRound wRoundI wOpsD wOpsS
variable {HK : FuncId → Option Hook}

def I22a (hb : Heap) (s o A B : SV) (q q6 : Nat) (vs xs : List Int) (E : Env) (h : Heap) : Prop := ∃ i : Nat, i ≤ vs.length ∧ Two hb h A B (inD vs xs i) (outD vs xs i) ∧
  E = [(0, some (.sc o)), (1, some (.sc s)), (4, some (.sc (.ptr q 0))), (5, some (.sc (.int .i64 (vs.length : Nat)))), (6, some (.sc (.ptr q6 0))), (7, some (.sc A)), (8, some (.sc B)), (9, some (.sc (.int .i64 (i : Nat))))]
def R22a (hb : Heap) (A B : SV) (q q6 : Nat) (vs xs : List Int) (ex : Ex) (E : Env) (h : Heap) : Prop := ex = .ex 0 ∧ Two hb h A B (inD vs xs vs.length) (outD vs xs vs.length) ∧ ∃ a b c d,
  E = [(0, a), (1, b), (4, some (.sc (.ptr q 0))), (5, some (.sc (.int .i64 (vs.length : Nat)))), (6, some (.sc (.ptr q6 0))), (7, some (.sc A)), (8, some (.sc B)), (9, c), (32, d)]
/-- Memory while the mates are laid. -/
structure Mb (hM h : Heap) (q : Nat) (t M A B : SV) (I O X : List Int) : Prop where
  e : Ext hM h
  c : Cel3 h q t M (.int .i64 0)
  m : Own hM h M (ints X)
  nq : NotAt M q
  a : IsInts h A I
  b : IsInts h B O
  aa : Ab.Apart M A
  ab : Ab.Apart M B
theorem Mb.set {hM h : Heap} {q : Nat} {t M A B : SV} {I O X : List Int} (s : Mb hM h q t M A B I O X) {i : Nat} (hi : i < X.length) (v : Int) : ∃ id cap h', M = .slc id 0 X.length cap ∧ writeN h id (0 + i * 1) [.int .i64 v] = some h' ∧ h'[q]? = h[q]? ∧ Mb hM h' q t M A B I O (X.set i v) := by
  obtain ⟨id, cap, h2, es, w2, o2, e2, f2, l2⟩ := Own.wr s.e s.m (i := i) (by simpa [ints] using hi) (.int .i64 v)
  have hc := (f2 _ _ s.c s.nq).1
  have hc0 : h[q]? = _ := s.c
  refine ⟨id, cap, h2, by rw [es]; simp [ints], w2, by rw [hc, hc0], e2, hc, ?_, s.nq, IsSl.away s.a f2 s.aa, IsSl.away s.b f2 s.ab, s.aa, s.ab⟩
  simpa [ints, List.map_set] using o2
def I22b (hM : Heap) (t M A B : SV) (q q6 : Nat) (vs xs : List Int) (E : Env) (h : Heap) : Prop := ∃ k : Nat, k ≤ 2 * vs.length ∧ Mb hM h q6 t M A B (inD vs xs vs.length) (outD vs xs vs.length) (mtT vs.length (inD vs xs vs.length) (outD vs xs vs.length) k) ∧
  E = [(4, some (.sc (.ptr q 0))), (5, some (.sc (.int .i64 (vs.length : Nat)))), (6, some (.sc (.ptr q6 0))), (7, some (.sc A)), (8, some (.sc B)), (12, some (.sc (.int .i64 (k : Nat))))]
def R22b (hM : Heap) (t M A B : SV) (q q6 : Nat) (vs xs : List Int) (ex : Ex) (E : Env) (h : Heap) : Prop := ex = .ex 2 ∧ Mb hM h q6 t M A B (inD vs xs vs.length) (outD vs xs vs.length) (mtD vs xs) ∧ ∃ a b c d e,
  E = [(4, some (.sc (.ptr q 0))), (5, a), (6, some (.sc (.ptr q6 0))), (7, b), (8, c), (12, d), (93, e)]
end Go.Proofs.Ytooafhbjbpaacaa


namespace Go.Proofs.Ytooafhbjbpaacaa
open Go.Ab
set_option linter.unusedVariables false
set_option linter.unusedSimpArgs false
set_option maxRecDepth 20000
set_option maxHeartbeats 4000000
attribute [local irreducible] wOps wA wSeq wBlk wRound wRoundI wOpsD wOpsS
variable {HK : FuncId → Option Hook}

section
variable {FT : FuncId → Option AFun} {E : Env} {h : Heap} {K : Env → Heap → Prop} {d : Option Nat} {r : List AOp} {x : AO}
theorem k_cvu {m : Int} (hx : evS E x = some (.int .i64 m)) (hr : 0 ≤ m ∧ m ≤ 9223372036854775807) (hw : wOps FT HK r (bindE d (some (.sc (.int .u64 m))) E) h K) : wOps FT HK (⟨d, .conv .u64 x, none⟩ :: r) E h K := by
  refine op_ok (v := some (.sc (wrapI .u64 m))) (h' := h) rfl rfl (by simp only [step1, hx]) ?_
  have : IntKind.u64.wrap m = m := by
    simp only [IntKind.wrap]
    show (if IntKind.u64.signed = true then _ else _) = _
    simp [IntKind.signed, IntKind.bits]
    omega
  rw [wrapI, this]; exact hw
end
theorem shl14 {k : Nat} (hk : k ≤ 14) {b : Int} (hb : b = k) : IntKind.i64.wrap (1 * 2 ^ (min b.toNat IntKind.i64.bits)) = ((2 ^ k : Nat) : Int) := by
  subst hb
  rw [Int.toNat_natCast]
  have h : ∀ k : Fin 15, IntKind.i64.wrap (1 * 2 ^ (min k.val IntKind.i64.bits)) = ((2 ^ k.val : Nat) : Int) := by decide +kernel
  exact h ⟨k, by omega⟩
theorem shr14 {x k : Nat} (hk : k ≤ 14) {b : Int} (hb2 : b = k) : ((x : Nat) : Int).fdiv (2 ^ (min b.toNat IntKind.i64.bits)) = ((x / 2 ^ k : Nat) : Int) := by
  subst hb2
  have h64 : IntKind.i64.bits = 64 := rfl
  rw [Int.toNat_natCast, Nat.min_eq_left (by omega)]
  have h2 : (2 : Int) ^ k = ((2 ^ k : Nat) : Int) := by simp
  rw [h2, Int.fdiv_eq_ediv_of_nonneg _ (Int.natCast_nonneg _)]
  exact (Int.natCast_ediv x (2 ^ k)).symm
/-! ### A list of lists -/
def Al (h0 h : Heap) (X : SV) (qs : List (List Int)) : Prop := ∃ ss : List SV, ss.length = qs.length ∧ Own h0 h X ss ∧ ∀ (j : Nat) (t : SV) (q : List Int), ss[j]? = some t → qs[j]? = some q → IsInts h t q ∧ Ab.Apart X t
theorem Al.ext {h0 h h' : Heap} {X : SV} {qs : List (List Int)} (a : Al h0 h X qs) (e : Ext h h') : Al h0 h' X qs := by
  obtain ⟨ss, h1, h2, h3⟩ := a
  exact ⟨ss, h1, h2.ext e, fun j t q hj hq => ⟨IsSl.ext (h3 j t q hj hq).1 e, (h3 j t q hj hq).2⟩⟩
theorem Al.push {h0 h h' : Heap} {X X' u : SV} {qs : List (List Int)} {q : List Int} {ss : List SV} (h1 : ss.length = qs.length) (h3 : ∀ (j : Nat) (t : SV) (q : List Int), ss[j]? = some t → qs[j]? = some q → IsInts h t q ∧ Ab.Apart X t) (hu : IsInts h u q) (ha : Ab.Apart X u) (ho : Own h0 h' X' (ss ++ [u])) (hf : Fram h h' X X') : Al h0 h' X' (qs ++ [q]) := by
  refine ⟨ss ++ [u], by simp [h1], ho, fun j t z hj hz => ?_⟩
  by_cases hl : j < ss.length
  · rw [List.getElem?_append_left hl] at hj
    rw [List.getElem?_append_left (by omega)] at hz
    obtain ⟨a, b⟩ := h3 j t z hj hz
    exact ⟨IsSl.away a hf b, Fram.apart hf a b⟩
  · rw [List.getElem?_append_right (by omega)] at hj
    rw [List.getElem?_append_right (by omega)] at hz
    have e : j - ss.length = 0 := by
      have := (List.getElem?_eq_some_iff.1 hj).1
      simp at this; omega
    rw [e] at hj
    rw [← h1, e] at hz
    simp at hj hz
    subst hj hz
    exact ⟨IsSl.away hu hf ha, Fram.apart hf hu ha⟩
/-! ### The signs of a number -/
def I20i (h0 : Heap) (o X : SV) (n b : Nat) (E : Env) (h : Heap) : Prop := ∃ (i : Nat) (u : SV), i ≤ n ∧ Ext h0 h ∧ Own h0 h u (ints ((sgL n b).take i)) ∧
  E = [(0, some (.sc o)), (3, some (.sc (.int .i64 (n : Nat)))), (4, some (.sc X)), (5, some (.sc (.int .i64 (b : Nat)))), (6, some (.sc u)), (7, some (.sc (.int .i64 (i : Nat))))]
def R20i (h0 : Heap) (o X : SV) (n b : Nat) (ex : Ex) (E : Env) (h : Heap) : Prop := ex = .ex 2 ∧ Ext h0 h ∧ ∃ u a c, Own h0 h u (ints (sgL n b)) ∧
  E = [(0, some (.sc o)), (3, some (.sc (.int .i64 (n : Nat)))), (4, some (.sc X)), (5, some (.sc (.int .i64 (b : Nat)))), (6, some (.sc u)), (7, a), (19, c)]
/-! ### All -/
theorem bfalse {b : Bool} {P : Prop} (h : b = true ↔ P) (hp : ¬ P) : b = false := by
  cases b with
  | false => rfl
  | true => exact absurd (h.1 rfl) hp
def I20o (h0 : Heap) (o : SV) (vs : List Int) (E : Env) (h : Heap) : Prop := ∃ (b : Nat) (X : SV), b ≤ 2 ^ vs.length ∧ Ext h0 h ∧ Al h0 h X (oksD (Pd vs) ((List.range b).map (sgL vs.length))) ∧
  E = [(0, some (.sc o)), (3, some (.sc (.int .i64 (vs.length : Nat)))), (4, some (.sc X)), (5, some (.sc (.int .i64 (b : Nat))))]
def R20o (h0 : Heap) (vs : List Int) (ex : Ex) (E : Env) (h : Heap) : Prop := ex = .ex 0 ∧ Ext h0 h ∧ ∃ X a b c d, Al h0 h X (oksD (Pd vs) (cands [] vs.length)) ∧
  E = [(0, a), (3, b), (4, some (.sc X)), (5, c), (14, d)]
theorem oks_next {P : List Int → Prop} {n b : Nat} : oksD P ((List.range (b + 1)).map (sgL n)) = oksD P ((List.range b).map (sgL n)) ++ (open Classical in if P (sgL n b) then [sgL n b] else []) := by
  unfold oksD
  rw [List.range_succ, List.map_append, List.filter_append]
  congr 1
  by_cases h : P (sgL n b)
  · rw [if_pos h]; simp [h]
  · rw [if_neg h]; simp [h]
end Go.Proofs.Ytooafhbjbpaacaa

