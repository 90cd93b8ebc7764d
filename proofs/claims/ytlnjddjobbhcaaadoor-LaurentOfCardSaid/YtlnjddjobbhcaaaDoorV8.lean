/- Terms, common divisors, values: contracts. -/
import Derived.Test.YtlnjddjobbhcaaaDoorV6
namespace Go.Proofs.YtlnjddjobbhcaaaDoor
open Go.Ab
set_option linter.unusedVariables false
set_option linter.unusedSimpArgs false
set_option maxRecDepth 20000
set_option maxHeartbeats 4000000
attribute [local irreducible] wOps wA wSeq wBlk wRound wRoundI wOpsD wOpsS

section
variable {FT : FuncId → Option AFun} {HK : FuncId → Option Hook} {E : Env} {h h0 : Heap} {K : Env → Heap → Prop} {d : Option Nat} {r : List AOp} {xo : AO}
theorem k_bslI {a b z0 z1 : SV} (hx : ev E xo = some (.agg [a, b])) (hw : ∀ h1, Ext h h1 → IsD h1 (.slc h.length 0 1 (some 1)) [(a, b)] → wOps FT HK r (bindE d (some (.sc (.slc h.length 0 1 (some 1)))) E) h1 K) :
    wOps FT HK (⟨d, .bsl 2 [z0, z1] 1 [(0, xo)], none⟩ :: r) E h K := by
  refine op_ok (v := some (.sc (.slc h.length 0 1 (some 1)))) (h' := h ++ [.cells [a, b] true 2]) rfl rfl ?_ (hw _ ⟨_, rfl⟩ (.inr ⟨h.length, 0, some 1, .cells [a, b] true 2, rfl, by simp, rfl, fun h => by simp at h, fun _ => ⟨[a, b], true, rfl, by simp [cut, prs, ez2]⟩⟩))
  simp [step1, evParts, hx, AV.cells, fillA, rep, splice, ez2]
end
theorem call31 (h0 : Heap) (c e : Int) (hc : c ≠ 0 ∧ c.natAbs ≤ cM) (he : e.natAbs ≤ eM) : ∃ r h', Cal FT HKt 31 [.sc (.int .i64 c), .sc (.int .i64 e)] h0 r h' ∧ Ext h0 h' ∧ IsPol h' r ⟨false, [(e, c)]⟩ := by
  refine Cal.of (F := a31) rfl rfl rfl ?_
  obtain ⟨hc0, hc⟩ := hc
  simp only [cM, eM] at hc he
  have k1 := fun H => call35 H c 1125899906842624 (by omega)
  have k2 := fun H => call35 H e 1048576 (by omega)
  rw [show decide (c.natAbs ≤ (1125899906842624 : Int).toNat) = true from decide_eq_true hc] at k1
  rw [show decide (e.natAbs ≤ (1048576 : Int).toNat) = true from decide_eq_true he] at k2
  repeat' (first | refine w_seq ?_ | refine w_seqN ?_ | refine w_blk ?_ | refine w_blkN ?_ | refine w_skip ?_ | refine w_ret ?_ | refine w_ops ?_ | ((refine i_cond ?_); refine w_condF rfl ?_) | ((refine i_nil ?_); first | refine w_end1 rfl ?_ | refine w_end3 rfl rfl rfl ?_ | refine w_end4 rfl rfl rfl rfl ?_) | ((refine i_cons ?_); first | (refine k_newC ?_; intro h4 e4 c4) | (refine k_call rfl (k1 _) ?_; rintro v _ ⟨rfl, rfl⟩) | (refine k_call rfl (k2 _) ?_; rintro v _ ⟨rfl, rfl⟩) | (refine k_bld rfl rfl ?_) | (refine k_bslI rfl ?_; intro h5 e5 i5; have c4_5 := c4.ext e5) | (refine k_stC rfl rfl c4_5 ?_; intro h6 w6) | refine k_want rfl ?_ | refine k_mv rfl ?_ | refine k_pickF rfl rfl ?_ | refine k_notT rfl ?_ | refine k_eqlF rfl rfl (by omega) ?_))
  exact ⟨.inr rfl, oK_cell rfl w6.cel.read ⟨w6.ext (e4.trans e5) (Nat.le_refl _), _, rfl, i5.wrC w6⟩⟩
def I33 (h0 : Heap) (g : Nat) (E : Env) (h : Heap) : Prop := h = h0 ∧ ∃ a b : Int, a.natAbs ≤ 4611686018427387904 ∧ b.natAbs ≤ 4611686018427387904 ∧ Nat.gcd a.natAbs b.natAbs = g ∧ E.keep [0, 1] = [(0, some (.sc (.int .i64 a))), (1, some (.sc (.int .i64 b)))]
def R33 (h0 : Heap) (g : Nat) (ex : Ex) (E : Env) (h : Heap) : Prop := h = h0 ∧ ex = .ex 0 ∧ ∃ a : Int, a.natAbs = g ∧ a.natAbs ≤ 4611686018427387904 ∧ ∃ p q, E = [(0, some (.sc (.int .i64 a))), (1, p), (6, q)]
def qG (E : Env) (h : Heap) : Nat := match (E.keep [0, 1]).get 1 with | some (.sc (.int .i64 b)) => b.natAbs | _ => 0
/-- At 1 and at -1. -/
def sgE (x e : Int) : Int := if x < 0 ∧ e % 2 ≠ 0 then -1 else 1
def sv (x : Int) (ts : List Tm) : Int := S (sgE x) ts
theorem sv_snoc (x : Int) (ts : List Tm) (t : Tm) : sv x (ts ++ [t]) = sv x ts + t.2 * sgE x t.1 := by
  unfold sv
  rw [S_app]; show _ + (_ + 0) = _; omega
theorem sgE_abs (x e : Int) : (sgE x e).natAbs = 1 := by unfold sgE; split <;> rfl
theorem sv_abs (x : Int) : ∀ ts : List Tm, (sv x ts).natAbs ≤ ca ts
  | [] => by simp [sv, S, ca]
  | t :: r => by
    have := sv_abs x r
    have e : sv x (t :: r) = t.2 * sgE x t.1 + sv x r := rfl
    have h2 : (t.2 * sgE x t.1).natAbs = t.2.natAbs := by rw [Int.natAbs_mul, sgE_abs, Nat.mul_one]
    rw [e, ca]; omega
theorem ca_len : ∀ {ts : List Tm}, (∀ t ∈ ts, t.2.natAbs ≤ cM) → ca ts ≤ ts.length * cM
  | [], _ => Nat.zero_le _
  | t :: r, h => by
    have := ca_len (ts := r) fun u hu => h u (.tail _ hu)
    have := h t (.head _)
    rw [ca, List.length_cons, Nat.succ_mul]; omega
structure St32 (h0 h : Heap) (q7 : Nat) (v : Int) : Prop where
  e : Ext h0 h
  c7 : Cel h q7 (wdP v).1 (wdP v).2
theorem St32.ext {h0 h h' : Heap} {q7 : Nat} {v : Int} (u : St32 h0 h q7 v) (e : Ext h h') : St32 h0 h' q7 v := ⟨u.e.trans e, u.c7.ext e⟩
def I32 (h0 : Heap) (q7 : Nat) (x : Int) (s : SV) (ts : List Tm) (E : Env) (h : Heap) : Prop := ∃ i : Nat, i ≤ ts.length ∧ St32 h0 h q7 (sv x (ts.take i)) ∧
  E.keep [1, 7, 37, 38, 39] = [(1, some (.sc (.int .i64 x))), (7, some (.sc (.ptr q7 0))), (37, some (.sc s)), (38, some (.sc (.int .i64 (ts.length : Nat)))), (39, some (.sc (.int .i64 (i : Nat))))]
def R32 (h0 : Heap) (q7 : Nat) (x : Int) (ts : List Tm) (ex : Ex) (E : Env) (h : Heap) : Prop := ex = .ex 1 ∧ St32 h0 h q7 (sv x ts) ∧ ∃ a b c d,
  E = [(1, some (.sc (.int .i64 x))), (7, some (.sc (.ptr q7 0))), (37, a), (38, b), (39, c), (40, d)]
end Go.Proofs.YtlnjddjobbhcaaaDoor


namespace Go.Proofs.YtlnjddjobbhcaaaDoor
open Go.Ab
set_option linter.unusedVariables false
set_option linter.unusedSimpArgs false
set_option maxRecDepth 20000
set_option maxHeartbeats 4000000
attribute [local irreducible] wOps wA wSeq wBlk wRound wRoundI wOpsD wOpsS

/-- What At answers at 1 and at -1. -/
def AtR (V m n e : Int) : Prop := (V.natAbs ≤ 1125899906842624 ∧ m = V ∧ n = 1 ∧ e = 0) ∨ (¬ V.natAbs ≤ 1125899906842624 ∧ m = 0 ∧ n = 0 ∧ e = 5)
end Go.Proofs.YtlnjddjobbhcaaaDoor

