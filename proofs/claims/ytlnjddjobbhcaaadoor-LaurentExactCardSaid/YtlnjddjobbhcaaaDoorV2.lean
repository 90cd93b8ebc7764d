/- Common factors of a wide number, and its quotient: contracts. -/
import Derived.Test.YtlnjddjobbhcaaaDoorW4
import Derived.Test.YtlnjddjobbhcaaaDoorAb41
import Derived.Test.YtlnjddjobbhcaaaDoorPX
namespace Go.Proofs.YtlnjddjobbhcaaaDoor
open Go.Ab
set_option linter.unusedVariables false
set_option linter.unusedSimpArgs false
set_option maxRecDepth 20000
set_option maxHeartbeats 4000000
attribute [local irreducible] wOps wA wSeq wBlk wRound wRoundI wOpsD wOpsS

def I99 (h0 : Heap) (g : Nat) (E : Env) (h : Heap) : Prop := h = h0 ∧ ∃ a b : Nat, a < 18446744073709551616 ∧ b < 18446744073709551616 ∧ Nat.gcd a b = g ∧ E.keep [7, 8] = [(7, some (.sc (.int .u64 (a : Nat)))), (8, some (.sc (.int .u64 (b : Nat))))]
def R99 (h0 : Heap) (g : Nat) (ex : Ex) (E : Env) (h : Heap) : Prop := h = h0 ∧ ex = .ex 0 ∧ ∃ a b, E = [(7, some (.sc (.int .u64 (g : Nat)))), (8, a), (22, b)]
def qB (E : Env) (h : Heap) : Nat := match (E.keep [7, 8]).get 8 with | some (.sc (.int .u64 b)) => b.toNat | _ => 0
/-- The parts of a quotient. -/
theorem over_parts (m g : Nat) (hg : 0 < g) : m / g / 18446744073709551616 = m / 18446744073709551616 / g ∧ m / g % 18446744073709551616 = ((m / 18446744073709551616) % g * 18446744073709551616 + m % 18446744073709551616) / g := by
  have h1 : m / g / 18446744073709551616 = m / 18446744073709551616 / g := by rw [Nat.div_div_eq_div_mul, Nat.div_div_eq_div_mul, Nat.mul_comm]
  refine ⟨h1, ?_⟩
  have hm : m = (m / 18446744073709551616 / g) * 18446744073709551616 * g + ((m / 18446744073709551616) % g * 18446744073709551616 + m % 18446744073709551616) := by
    have a := Nat.div_add_mod (m / 18446744073709551616) g
    have b := Nat.div_add_mod m 18446744073709551616
    generalize m / 18446744073709551616 = h at *
    generalize h / g = q at *
    generalize h % g = r at *
    rw [Nat.mul_right_comm, Nat.mul_comm q g]
    omega
  have h2 : m / g = (m / 18446744073709551616 / g) * 18446744073709551616 + ((m / 18446744073709551616) % g * 18446744073709551616 + m % 18446744073709551616) / g := by
    conv => lhs; rw [hm]
    rw [Nat.add_comm, Nat.add_mul_div_right _ _ hg, Nat.add_comm]
  have h3 : m / g % 18446744073709551616 = m / g - m / g / 18446744073709551616 * 18446744073709551616 := by omega
  rw [h3, h1]; omega
end Go.Proofs.YtlnjddjobbhcaaaDoor


/- The value of the terms whose exponents are not negative: contracts. -/
namespace Go.Proofs.YtlnjddjobbhcaaaDoor
open Go.Ab
set_option linter.unusedVariables false
set_option linter.unusedSimpArgs false
set_option maxRecDepth 20000
set_option maxHeartbeats 4000000
attribute [local irreducible] wOps wA wSeq wBlk wRound wRoundI wOpsD wOpsS

/-- The terms' value, the exponents counted from a. -/
def pv (x a : Int) (l : List Tm) : Int := S (fun e => x ^ (e - a).toNat) l
/-- The same of the absolute values. -/
def pa (X : Nat) (a : Int) : List Tm → Nat
  | [] => 0
  | t :: r => t.2.natAbs * X ^ (t.1 - a).toNat + pa X a r
theorem pv_cons (x a : Int) (t : Tm) (r : List Tm) : pv x a (t :: r) = t.2 * x ^ (t.1 - a).toNat + pv x a r := rfl
theorem pv_app (x a : Int) (l r : List Tm) : pv x a (l ++ r) = pv x a l + pv x a r := S_app _ _ _
theorem pa_app (X : Nat) (a : Int) : ∀ (l r : List Tm), pa X a (l ++ r) = pa X a l + pa X a r
  | [], r => by simp [pa]
  | t :: l, r => by rw [List.cons_append, pa, pa, pa_app X a l r]; omega
theorem pv_abs (x a : Int) : ∀ l : List Tm, (pv x a l).natAbs ≤ pa x.natAbs a l
  | [] => by simp [pv, pa, S]
  | t :: r => by
    rw [pv_cons, pa]
    have h1 := pv_abs x a r
    have h2 : (t.2 * x ^ (t.1 - a).toNat).natAbs = t.2.natAbs * x.natAbs ^ (t.1 - a).toNat := by rw [Int.natAbs_mul, Int.natAbs_pow]
    omega
theorem pv_shift (x : Int) {a b : Int} (h : b ≤ a) : ∀ {l : List Tm}, (∀ t ∈ l, a ≤ t.1) → pv x b l = pv x a l * x ^ (a - b).toNat
  | [], _ => by simp [pv, S]
  | t :: r, hl => by
    rw [pv_cons, pv_cons, pv_shift x h (fun u hu => hl u (.tail _ hu)), Int.add_mul, Int.mul_assoc, ← Int.pow_add]
    have := hl t (.head _)
    rw [show (t.1 - a).toNat + (a - b).toNat = (t.1 - b).toNat by omega]
theorem pa_shift (X : Nat) {a b : Int} (h : b ≤ a) : ∀ {l : List Tm}, (∀ t ∈ l, a ≤ t.1) → pa X b l = pa X a l * X ^ (a - b).toNat
  | [], _ => by simp [pa]
  | t :: r, hl => by
    rw [pa, pa, pa_shift X h (fun u hu => hl u (.tail _ hu)), Nat.add_mul, Nat.mul_assoc, ← Nat.pow_add]
    have := hl t (.head _)
    rw [show (t.1 - a).toNat + (a - b).toNat = (t.1 - b).toNat by omega]
theorem pa_mono {X : Nat} (hX : 0 < X) {a b : Int} (h : b ≤ a) : ∀ {l : List Tm}, (∀ t ∈ l, a ≤ t.1) → pa X a l ≤ pa X b l := fun {l} hl => by
  rw [pa_shift X h hl]
  exact Nat.le_mul_of_pos_right _ (Nat.pow_pos hX)
section
variable {FT : FuncId → Option AFun} {HK : FuncId → Option Hook} {E : Env} {h : Heap} {K : Env → Heap → Prop} {d : Option Nat} {r : List AOp} {x : AO}
theorem k_box1 {v : SV} (hx : ev E x = some (.sc v)) (hw : ∀ h1, Ext h h1 → Cel1 h1 h.length v → wOps FT HK r (bindE d (some (.sc (.ptr h.length 0))) E) h1 K) :
    wOps FT HK (⟨d, .box x, none⟩ :: r) E h K :=
  op_ok (v := some (.sc (.ptr h.length 0))) (h' := h ++ [.cells [v] true 0]) rfl rfl (by simp [step1, hx, AV.cells]) (hw _ ⟨_, rfl⟩ (by simp [Cel1]))
theorem k_st1' {q : Nat} {a v : SV} {p : AO} (ha : evS E p = some (.ptr q 0)) (hx : ev E x = some (.sc v)) (hc : Cel1 h q a) (hw : ∀ h1 : Heap, h1 = h.set q (.cells [v] true 0) → Cel1 h1 q v → wOps FT HK r (bindE d none E) h1 K) :
    wOps FT HK (⟨d, .st 1 p x, none⟩ :: r) E h K := k_st1 ha hx hc hw
end
theorem Cel1.lt {h : Heap} {q : Nat} {a : SV} (c : Cel1 h q a) : q < h.length := (List.getElem?_eq_some_iff.1 c).1
theorem Cel1.set {h : Heap} {q p : Nat} {a : SV} (c : Cel1 h q a) (hn : p ≠ q) (b : Blk) : Cel1 (h.set p b) q a := by
  unfold Cel1 at *
  rw [List.getElem?_set_ne hn]; exact c
structure Up (h0 h : Heap) (q6 q7 q3 : Nat) (v at' x : Int) : Prop where
  e : Ext h0 h
  c6 : Cel1 h q6 (.int .i64 v)
  c7 : Cel1 h q7 (.int .i64 at')
  c3 : Cel1 h q3 (.int .i64 x)
  l6 : h0.length ≤ q6
  l7 : h0.length ≤ q7
  n67 : q6 ≠ q7
  n63 : q6 ≠ q3
  n73 : q7 ≠ q3
theorem Up.st6 {h0 h h1 : Heap} {q6 q7 q3 : Nat} {v a x v' : Int} (u : Up h0 h q6 q7 q3 v a x) (hh : h1 = h.set q6 (.cells [.int .i64 v'] true 0)) (c : Cel1 h1 q6 (.int .i64 v')) : Up h0 h1 q6 q7 q3 v' a x :=
  ⟨hh ▸ u.e.set u.l6 _, c, hh ▸ u.c7.set u.n67 _, hh ▸ u.c3.set u.n63 _, u.l6, u.l7, u.n67, u.n63, u.n73⟩
theorem Up.st7 {h0 h h1 : Heap} {q6 q7 q3 : Nat} {v a x a' : Int} (u : Up h0 h q6 q7 q3 v a x) (hh : h1 = h.set q7 (.cells [.int .i64 a'] true 0)) (c : Cel1 h1 q7 (.int .i64 a')) : Up h0 h1 q6 q7 q3 v a' x :=
  ⟨hh ▸ u.e.set u.l7 _, hh ▸ u.c6.set (Ne.symm u.n67) _, c, hh ▸ u.c3.set u.n73 _, u.l6, u.l7, u.n67, u.n63, u.n73⟩
def I97 (h0 : Heap) (q6 q7 q3 : Nat) (x tg V : Int) (E : Env) (h : Heap) : Prop := ∃ v a : Int, Up h0 h q6 q7 q3 v a x ∧ v * x ^ (a - tg).toNat = V ∧ a.natAbs ≤ eM ∧
  E.keep [0, 1, 2, 3] = [(0, some (.sc (.int .i64 tg))), (1, some (.sc (.ptr q6 0))), (2, some (.sc (.ptr q7 0))), (3, some (.sc (.ptr q3 0)))]
def R97 (h0 : Heap) (q6 q7 q3 : Nat) (x tg V : Int) (ex : Ex) (E : Env) (h : Heap) : Prop := ex = .ex 0 ∧ ∃ a : Int, Up h0 h q6 q7 q3 V a x ∧ ∃ b c d, E = [(0, some (.sc (.int .i64 tg))), (1, b), (2, some (.sc (.ptr q7 0))), (3, c), (14, d)]
def qA (q7 : Nat) (tg : Int) (_ : Env) (h : Heap) : Nat := match h[q7]? with | some (.cells [.int .i64 a] _ _) => (a - tg).toNat | _ => 0
theorem qA_of {q7 : Nat} {tg a : Int} {E : Env} {h : Heap} (c : Cel1 h q7 (.int .i64 a)) : qA q7 tg E h = (a - tg).toNat := by
  unfold qA
  unfold Cel1 at c
  rw [c]
/-- From the last term to the first. -/
def I85 (h0 : Heap) (q6 q7 q3 : Nat) (x : Int) (s : SV) (ts : List Tm) (E : Env) (h : Heap) : Prop := ∃ (i : Nat) (a : Int), i ≤ ts.length ∧ Up h0 h q6 q7 q3 (pv x a (ts.drop i)) a x ∧ (∀ t ∈ ts.drop i, a ≤ t.1) ∧ (ts.drop i = [] ∨ ∀ t ∈ ts.take i, t.1 ≤ a) ∧ 0 ≤ a ∧ a.natAbs ≤ eM ∧
  E.keep [0, 6, 8, 9] = [(0, some (.sc s)), (6, some (.sc (.ptr q6 0))), (8, some (.sc (.fn 97 [(q6, 0), (q7, 0), (q3, 0)]))), (9, some (.sc (.int .i64 ((i : Nat) - 1))))]
def R85 (h0 : Heap) (q6 q7 q3 : Nat) (x : Int) (ts : List Tm) (ex : Ex) (E : Env) (h : Heap) : Prop := ex = .ex 0 ∧ ∃ a : Int, Up h0 h q6 q7 q3 (pv x a ts) a x ∧ (∀ t ∈ ts, a ≤ t.1) ∧ 0 ≤ a ∧ a.natAbs ≤ eM ∧ ∃ b c d, E = [(0, b), (6, some (.sc (.ptr q6 0))), (8, some (.sc (.fn 97 [(q6, 0), (q7, 0), (q3, 0)]))), (9, c), (15, d)]
def qI (E : Env) (_ : Heap) : Nat := match (E.keep [0, 6, 8, 9]).get 9 with | some (.sc (.int .i64 n)) => (n + 1).toNat | _ => 0
theorem drop_cons' {ts : List Tm} {i : Nat} {t : Tm} (h : ts[i]? = some t) : ts.drop i = t :: ts.drop (i + 1) := by
  obtain ⟨hi, rfl⟩ := List.getElem?_eq_some_iff.1 h
  exact List.drop_eq_getElem_cons hi
theorem pa_drop (X : Nat) (a : Int) (ts : List Tm) (i : Nat) : pa X a (ts.drop i) ≤ pa X a ts := by
  have := pa_app X a (ts.take i) (ts.drop i)
  rw [List.take_append_drop] at this; omega
theorem can_le {ts : List Tm} (hc : Can ts) {i : Nat} {t : Tm} (h : ts[i]? = some t) : ∀ u ∈ ts.drop (i + 1), t.1 < u.1 := fun u hu => by
  have := hc.asc.sublist (List.drop_sublist i ts)
  rw [drop_cons' h] at this
  exact (List.pairwise_cons.1 this).1 u hu
end Go.Proofs.YtlnjddjobbhcaaaDoor

