/- The value of the terms whose exponents are negative: contract. -/
import Derived.Test.YtlnjddjobbhcaaaDoorV4
import Derived.Test.YtlnjddjobbhcaaaDoorAb38
namespace Go.Proofs.YtlnjddjobbhcaaaDoor
open Go.Ab
set_option linter.unusedVariables false
set_option linter.unusedSimpArgs false
set_option maxRecDepth 20000
set_option maxHeartbeats 4000000
attribute [local irreducible] wOps wA wSeq wBlk wRound wRoundI wOpsD wOpsS

/-- The coefficients' absolute values, added up. -/
def ca : List Tm → Nat
  | [] => 0
  | t :: r => t.2.natAbs + ca r
theorem ca_app : ∀ (l r : List Tm), ca (l ++ r) = ca l + ca r
  | [], r => by simp [ca]
  | t :: l, r => by rw [List.cons_append, ca, ca, ca_app l r]; omega
theorem ca_take (ts : List Tm) (i : Nat) : ca (ts.take i) ≤ ca ts := by
  have := ca_app (ts.take i) (ts.drop i)
  rw [List.take_append_drop] at this; omega
theorem can_ge {ts : List Tm} (hc : Can ts) {i : Nat} {t : Tm} (h : ts[i]? = some t) : ∀ u ∈ ts.drop (i + 1), t.1 ≤ u.1 := fun u hu => by have := can_le hc h u hu; omega
def I86 (h0 : Heap) (q3 q4 q7 q8 q9 : Nat) (x a0 : Int) (s : SV) (ts : List Tm) (E : Env) (h : Heap) : Prop := ∃ (i : Nat) (n a : Int) (d : Nat), i ≤ ts.length ∧ Lw h0 h0 h q3 q4 q7 q8 q9 n a x d ∧ Fr x a0 (pv x a0 (ts.take i)) (ca (ts.take i)) n a d ∧ ((∀ t ∈ ts.drop i, a ≤ t.1) ∨ n = 0) ∧ a ≤ 0 ∧ a.natAbs ≤ eM ∧
  E.keep [4, 7, 8, 10, 14, 15, 16] = [(4, some (.sc (.ptr q4 0))), (7, some (.sc (.ptr q7 0))), (8, some (.sc (.ptr q8 0))), (10, some (.sc (.fn 98 [(q7, 0), (q9, 0), (q3, 0), (q8, 0)]))), (14, some (.sc s)), (15, some (.sc (.int .i64 (ts.length : Nat)))), (16, some (.sc (.int .i64 (i : Nat))))]
def R86 (h0 : Heap) (q3 q4 q7 q8 q9 : Nat) (x a0 : Int) (ts : List Tm) (ex : Ex) (E : Env) (h : Heap) : Prop := ex = .ex 0 ∧ ∃ (n a : Int) (d : Nat), Lw h0 h0 h q3 q4 q7 q8 q9 n a x d ∧ Fr x a0 (pv x a0 ts) (ca ts) n a d ∧ a ≤ 0 ∧ a.natAbs ≤ eM ∧
  ∃ p r s t, E = [(4, some (.sc (.ptr q4 0))), (7, some (.sc (.ptr q7 0))), (8, some (.sc (.ptr q8 0))), (10, some (.sc (.fn 98 [(q7, 0), (q9, 0), (q3, 0), (q8, 0)]))), (14, p), (15, r), (16, s), (17, t)]
theorem oK_celltt {E : Env} {h : Heap} {a id off n t t2 : Nat} {vs : List SV} {v v2 : SV} {Q : AV → Prop} (hE : E.get a = some (.sc (.ptr id off))) (hr : readN h id off n = some vs) (ht : E.get t = some (.sc v)) (ht2 : E.get t2 = some (.sc v2)) (hK : Q (.tup [.agg vs, .sc v, .sc v2])) : oK (resultsA [.cell a n true, .t t, .t t2] E h) Q := by
  have : resultsA [.cell a n true, .t t, .t t2] E h = some (.tup [.agg vs, .sc v, .sc v2]) := by simp only [resultsA, resAll, resOne, hE, hr, ht, ht2, Option.bind_some, cellsAV, if_true, AV.pv, Option.map_some]
  rw [this]; exact hK
end Go.Proofs.YtlnjddjobbhcaaaDoor


/- The value as a fraction: contract. -/
namespace Go.Proofs.YtlnjddjobbhcaaaDoor
open Go.Ab
set_option linter.unusedVariables false
set_option linter.unusedSimpArgs false
set_option maxRecDepth 20000
set_option maxHeartbeats 4000000
attribute [local irreducible] wOps wA wSeq wBlk wRound wRoundI wOpsD wOpsS

theorem IsD.part {h : Heap} {s : SV} {ps : List P2} (hs : IsD h s ps) {l u : Nat} (hlu : l ≤ u) (hu : u ≤ ps.length) : ∃ s', sliceS h 2 l u s = some s' ∧ IsD h s' ((ps.drop l).take (u - l)) := by
  rcases hs with ⟨rfl, h1, h2⟩ | ⟨id, off, cap, b, rfl, h1, h2, h3, h4⟩
  · refine ⟨.nilS, by simp [sliceS]; omega, ?_⟩
    have : (ps.drop l).take (u - l) = [] := List.eq_nil_of_length_eq_zero (by simp; omega)
    rw [this]; exact IsD.nil _
  · refine ⟨.slc id (off + l * (2 : ESz).n) (u - l) (cap.map (· - l)), by simp only [sliceS, h1]; rw [if_pos ⟨h2, hlu, hu⟩], ?_⟩
    have hlen : ((ps.drop l).take (u - l)).length = u - l := by simp; omega
    refine .inr ⟨id, off + l * 2, _, b, by rw [hlen]; rfl, h1, h2, fun h => ?_, fun hp => ?_⟩
    · rw [List.eq_nil_of_length_eq_zero h]; rfl
    · rw [hlen] at hp
      obtain ⟨cs, rw', e1, e2⟩ := h4 (by omega)
      refine ⟨cs, rw', e1, ?_⟩
      unfold cut at e2 ⊢
      simp only [ez2] at e2 ⊢
      split at e2
      · rename_i hle
        rw [hlen, if_pos (by omega)]
        simp only [Option.some.injEq] at e2 ⊢
        rw [prs_take, prs_drop, ← e2, List.drop_take, List.take_take, List.drop_drop, Nat.min_eq_left (by omega)]
      · cases e2
section
variable {FT : FuncId → Option AFun} {HK : FuncId → Option Hook} {E : Env} {h h0 : Heap} {K : Env → Heap → Prop} {d : Option Nat} {r : List AOp} {x y xo so : AO} {m n : Int}
theorem k_slF {S : SV} {ps : List P2} {lo : AO} {l : Nat} (hs : IsD h S ps) (hx : evS E x = some S) (hl : evS E lo = some (.int .i64 (l : Nat))) (hb : l ≤ ps.length)
    (hw : ∀ s', IsD h s' (ps.drop l) → wOps FT HK r (bindE d (some (.sc s')) E) h K) :
    wOps FT HK (⟨d, .sl 2 x (some lo) none, none⟩ :: r) E h K := by
  obtain ⟨s', e1, e2⟩ := IsD.part hs hb (Nat.le_refl _)
  rw [List.take_of_length_le (by simp)] at e2
  refine op_ok (v := some (.sc s')) (h' := h) rfl rfl ?_ (hw s' e2)
  have : (0 : Int) ≤ (l : Int) := by omega
  simp only [step1, hx, hl, hs.len, bnd, Option.bind_some, this, if_true, Int.toNat_natCast, e1, Option.map_some]
theorem k_slT {S : SV} {ps : List P2} {hi : AO} {u : Nat} (hs : IsD h S ps) (hx : evS E x = some S) (hl : evS E hi = some (.int .i64 (u : Nat))) (hb : u ≤ ps.length)
    (hw : ∀ s', IsD h s' (ps.take u) → wOps FT HK r (bindE d (some (.sc s')) E) h K) :
    wOps FT HK (⟨d, .sl 2 x none (some hi), none⟩ :: r) E h K := by
  obtain ⟨s', e1, e2⟩ := IsD.part hs (Nat.zero_le u) hb
  rw [List.drop_zero, Nat.sub_zero] at e2
  refine op_ok (v := some (.sc s')) (h' := h) rfl rfl ?_ (hw s' e2)
  have : (0 : Int) ≤ (u : Int) := by omega
  simp only [step1, hx, hl, hs.len, bnd, Option.bind_some, this, if_true, Int.toNat_natCast, e1, Option.map_some]
end
theorem ca_le (X : Nat) (hX : 0 < X) (a : Int) : ∀ ts : List Tm, ca ts ≤ pa X a ts
  | [] => Nat.le_refl _
  | t :: r => by
    rw [ca, pa]
    have := ca_le X hX a r
    have := Nat.le_mul_of_pos_right t.2.natAbs (Nat.pow_pos (n := (t.1 - a).toNat) hX)
    omega
/-- The value, m over d, in lowest terms. -/
structure IsFr (x a0 : Int) (ts : List Tm) (m : Int) (d : Nat) : Prop where
  eq : m * x ^ (0 - a0).toNat = d * pv x a0 ts
  cop : Nat.gcd m.natAbs d = 1
  d1 : 1 ≤ d
  dX : d ≤ x.natAbs ^ (0 - a0).toNat
theorem IsFr.bound {x a0 : Int} {ts : List Tm} {m : Int} {d : Nat} (f : IsFr x a0 ts m d) (hX : 0 < x.natAbs) : m.natAbs ≤ pa x.natAbs a0 ts := by
  have h1 := congrArg Int.natAbs f.eq
  rw [Int.natAbs_mul, Int.natAbs_mul, Int.natAbs_pow, show ((d : Nat) : Int).natAbs = d from rfl] at h1
  have h2 := Nat.mul_le_mul f.dX (pv_abs x a0 ts)
  rw [← h1, Nat.mul_comm] at h2
  exact Nat.le_of_mul_le_mul_left h2 (Nat.pow_pos hX)
def I64 (h0 h : Heap) (q2 : Nat) (x : Int) (ts : List Tm) (E : Env) (h' : Heap) : Prop := h' = h ∧ ∃ i : Nat, i ≤ ts.length ∧ (∀ t ∈ ts.take i, t.1 < 0) ∧
  E.keep [1, 2, 7] = [(1, some (.sc (.int .i64 x))), (2, some (.sc (.ptr q2 0))), (7, some (.sc (.int .i64 (i : Nat))))]
def R64 (h0 h : Heap) (q2 : Nat) (x : Int) (ts : List Tm) (ex : Ex) (E : Env) (h' : Heap) : Prop := h' = h ∧ ex = .ex 0 ∧ ∃ (i : Nat), i ≤ ts.length ∧ (∀ t ∈ ts.take i, t.1 < 0) ∧ (∀ t ∈ ts.drop i, 0 ≤ t.1) ∧ ∃ p,
  E = [(1, some (.sc (.int .i64 x))), (2, some (.sc (.ptr q2 0))), (7, some (.sc (.int .i64 (i : Nat)))), (25, p)]
end Go.Proofs.YtlnjddjobbhcaaaDoor

