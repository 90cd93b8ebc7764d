/- Determinants of numbers, plain: expansion along the first row; rows and columns exchanged; rows added. -/
import Derived.Test.YtofknpknogfijaaGreatDoorMU
namespace Go.Proofs.YtofknpknogfijaaGreatDoor
set_option linter.unusedVariables false

/-- Rows are functions of the column's number. -/
abbrev Row := Nat → Int
/-- The alternating sum over what is taken out of a list. -/
def alt (f : Nat → List Nat → Int) : List Nat → Int
  | [] => 0
  | c :: cs => f c cs - alt (fun d ds => f d (c :: ds)) cs
def D : List Row → List Nat → Int
  | [], _ => 1
  | r :: rs, cs => alt (fun c ds => r c * D rs ds) cs
/-- Two rows taken one after the other. -/
def alt2 (a b : Row) (G : List Nat → Int) (cs : List Nat) : Int := alt (fun c ds => a c * alt (fun d es => b d * G es) ds) cs
theorem D_cons (r : Row) (rs : List Row) (cs : List Nat) : D (r :: rs) cs = alt (fun c ds => r c * D rs ds) cs := rfl
/-! Columns. -/
end Go.Proofs.YtofknpknogfijaaGreatDoor


namespace Go.Proofs.YtofknpknogfijaaGreatDoor
set_option linter.unusedVariables false

/-- Congruence. -/
def Cg (p : Nat) (a b : Int) : Prop := (p : Int) ∣ a - b
theorem Cg.rfl {p : Nat} {a : Int} : Cg p a a := by unfold Cg; rw [Int.sub_self]; exact Int.dvd_zero _
theorem Cg.of_eq {p : Nat} {a b : Int} (h : a = b) : Cg p a b := h ▸ Cg.rfl
theorem Cg.symm {p : Nat} {a b : Int} (h : Cg p a b) : Cg p b a := by
  obtain ⟨k, h⟩ := h; exact ⟨-k, by rw [Int.mul_neg]; omega⟩
/-- Rows that agree in the columns. -/
def RCg (p : Nat) (cs : List Nat) (a b : Row) : Prop := ∀ c ∈ cs, Cg p (a c) (b c)
inductive RsCg (p : Nat) (cs : List Nat) : List Row → List Row → Prop
  | nil : RsCg p cs [] []
  | cons {a b : Row} {az bz : List Row} : RCg p cs a b → RsCg p cs az bz → RsCg p cs (a :: az) (b :: bz)
/-! The field's steps. -/
def sbM (p a b : Nat) : Nat := if a < b then a + p - b else a - b
def adM (p a b : Nat) : Nat := if p ≤ a + b then a + b - p else a + b
/-- A row of residues, as a row of numbers. -/
def rw_ (r : List Nat) : Row := fun c => ((r.getD c 0 : Nat) : Int)
/-- One entry less a multiple of the pivot's. -/
def elR (p k f : Nat) (piv r : List Nat) : List Nat := r.mapIdx fun c x => if k < c then sbM p x (f * piv.getD c 0 % p) else x
/-- The first row whose entry k is not zero, taken to the front by an exchange. -/
def pick (k : Nat) : List (List Nat) → Option (List (List Nat) × List Nat × List (List Nat))
  | [] => none
  | r :: rs => if r.getD k 0 ≠ 0 then some ([], r, rs) else (pick k rs).map fun x => (r :: x.1, x.2)
/-- What is left beside the pivot. -/
def others (a : List (List Nat)) (c : List (List Nat)) : List (List Nat) := match a with
  | [] => c
  | x :: a => a ++ x :: c
def detM (p : Nat) (inv : Nat → Nat) : Nat → Nat → List (List Nat) → Nat → Nat
  | 0, _, _, d => d
  | m + 1, k, rs, d => match pick k rs with
    | none => 0
    | some (a, b, c) =>
      detM p inv m (k + 1) ((others a c).map fun r => elR p k (r.getD k 0 * inv (b.getD k 0) % p) b r) ((if a = [] then d else sbM p 0 d) * b.getD k 0 % p)
def FOK (p : Nat) (inv : Nat → Nat) : Prop := ∀ a, 0 < a → a < p → a * inv a % p = 1
end Go.Proofs.YtofknpknogfijaaGreatDoor



namespace Go.Proofs.YtofknpknogfijaaGreatDoor
open Go.Ab
set_option linter.unusedVariables false
set_option linter.unusedSimpArgs false
set_option maxRecDepth 20000
set_option maxHeartbeats 4000000
attribute [local irreducible] wOps wA wSeq wBlk wRound wRoundI wOpsD wOpsS
set_option linter.unusedSectionVars false
variable [HB]

theorem call129 (h0 : Heap) (p g a b : Nat) (hp : p < 9223372036854775808) (ha : a < p) (hb : b < p) : ∃ r h', Cal FT HKt 129 [fld p g, u a, u b] h0 r h' ∧ Ext h0 h' ∧ r = u (adM p a b) := by
  refine Cal.of (F := a129) rfl rfl rfl ?_
  unfold adM
  by_cases hc : p ≤ a + b
  · rw [if_pos hc]
    have e : ((a : Int) + b - p) = ((a + b - p : Nat) : Int) := by omega
    repeat' (first | refine w_seq ?_ | refine w_seqN ?_ | refine w_ret ?_ | refine w_ops ?_ | ((refine i_cond ?_); refine w_condT rfl ?_) | ((refine i_nil ?_); first | refine w_end1 rfl ?_ | refine w_end2 rfl rfl ?_ | refine w_end3 rfl rfl rfl ?_) | ((refine i_cons ?_); first | (refine k_boxC rfl ?_; intro h1 e1 c1) | refine k_fldA rfl ?_ | refine k_ldC0 rfl c1 ?_ | refine k_addV rfl rfl (by omega) ?_ | (refine k_subV rfl rfl (by omega) ?_; rw [e]) | refine k_mv rfl ?_ | refine k_geqT rfl rfl (by omega) ?_))
    exact ⟨.inr rfl, e1, rfl⟩
  · rw [if_neg hc]
    have e : ((a : Int) + b) = ((a + b : Nat) : Int) := by omega
    repeat' (first | refine w_seq ?_ | refine w_seqN ?_ | refine w_skip ?_ | refine w_ret ?_ | refine w_ops ?_ | ((refine i_cond ?_); refine w_condF rfl ?_) | ((refine i_nil ?_); first | refine w_end1 rfl ?_ | refine w_end2 rfl rfl ?_ | refine w_end3 rfl rfl rfl ?_) | ((refine i_cons ?_); first | (refine k_boxC rfl ?_; intro h1 e1 c1) | refine k_fldA rfl ?_ | refine k_ldC0 rfl c1 ?_ | (refine k_addV rfl rfl (by omega) ?_; rw [e]) | refine k_mv rfl ?_ | refine k_geqF rfl rfl (by omega) ?_))
    exact ⟨.inr rfl, e1, rfl⟩
theorem call122 (h0 : Heap) (p g a b : Nat) (hp : p < 9223372036854775808) (ha : a < p) (hb : b ≤ p) : ∃ r h', Cal FT HKt 122 [fld p g, u a, u b] h0 r h' ∧ Ext h0 h' ∧ r = u (sbM p a b) := by
  refine Cal.of (F := a122) rfl rfl rfl ?_
  unfold sbM
  by_cases hc : a < b
  · rw [if_pos hc]
    have e : ((a : Int) + p - b) = ((a + p - b : Nat) : Int) := by omega
    repeat' (first | refine w_seq ?_ | refine w_seqN ?_ | refine w_ret ?_ | refine w_ops ?_ | ((refine i_cond ?_); refine w_condT rfl ?_) | ((refine i_nil ?_); first | refine w_end1 rfl ?_ | refine w_end2 rfl rfl ?_ | refine w_end3 rfl rfl rfl ?_ | refine w_end4 rfl rfl rfl rfl ?_) | ((refine i_cons ?_); first | (refine k_boxC rfl ?_; intro h1 e1 c1) | refine k_fldA rfl ?_ | refine k_ldC0 rfl c1 ?_ | refine k_addV rfl rfl (by omega) ?_ | (refine k_subV rfl rfl (by omega) ?_; rw [e]) | refine k_mv rfl ?_ | refine k_lssT rfl rfl (by omega) ?_))
    exact ⟨.inr rfl, e1, rfl⟩
  · rw [if_neg hc]
    have e : ((a : Int) - b) = ((a - b : Nat) : Int) := by omega
    repeat' (first | refine w_seq ?_ | refine w_seqN ?_ | refine w_skip ?_ | refine w_ret ?_ | refine w_ops ?_ | ((refine i_cond ?_); refine w_condF rfl ?_) | ((refine i_nil ?_); first | refine w_end1 rfl ?_ | refine w_end3 rfl rfl rfl ?_ | refine w_end4 rfl rfl rfl rfl ?_) | ((refine i_cons ?_); first | (refine k_boxC rfl ?_; intro h1 e1 c1) | (refine k_subV rfl rfl (by omega) ?_; rw [e]) | refine k_mv rfl ?_ | refine k_lssF rfl rfl (by omega) ?_))
    exact ⟨.inr rfl, e1, rfl⟩
/-- The residue of a number. -/
def ofM (p : Nat) (x : Int) : Nat := if x < 0 then p - x.natAbs else x.natAbs
theorem call99 (h0 : Heap) (p g : Nat) (x : Int) (hp : p < 9223372036854775808) (hx : x.natAbs < p) : ∃ r h', Cal FT HKt 99 [fld p g, .sc (.int .i64 x)] h0 r h' ∧ Ext h0 h' ∧ r = u (ofM p x) := by
  refine Cal.of (F := a99) rfl rfl rfl ?_
  unfold ofM
  by_cases hc : x < 0
  · rw [if_pos hc]
    have e : ((p : Int) - -x) = ((p - x.natAbs : Nat) : Int) := by omega
    repeat' (first | refine w_seq ?_ | refine w_seqN ?_ | refine w_seqR ?_ | refine w_ret ?_ | refine w_ops ?_ | ((refine i_cond ?_); refine w_condT rfl ?_) | ((refine i_nil ?_); first | refine w_end1 rfl ?_ | refine w_end2 rfl rfl ?_ | refine w_end3 rfl rfl rfl ?_) | ((refine i_cons ?_); first | (refine k_boxC rfl ?_; intro h1 e1 c1) | refine k_fldA rfl ?_ | refine k_ldC0 rfl c1 ?_ | refine k_cvV rfl (by omega) ?_ | (refine k_subV rfl rfl (by omega) ?_; rw [e]) | refine k_mv rfl ?_ | refine k_neg rfl (by omega) ?_ | refine k_lssT rfl rfl (by omega) ?_))
    exact ⟨.inr rfl, e1, rfl⟩
  · rw [if_neg hc]
    have e : x = ((x.natAbs : Nat) : Int) := by omega
    generalize x.natAbs = n at *
    subst e
    repeat' (first | refine w_seq ?_ | refine w_seqN ?_ | refine w_skip ?_ | refine w_ret ?_ | refine w_ops ?_ | ((refine i_cond ?_); refine w_condF rfl ?_) | ((refine i_nil ?_); first | refine w_end1 rfl ?_ | refine w_end2 rfl rfl ?_ | refine w_end3 rfl rfl rfl ?_) | ((refine i_cons ?_); first | (refine k_boxC rfl ?_; intro h1 e1 c1) | refine k_cvV rfl (by omega) ?_ | refine k_mv rfl ?_ | refine k_lssF rfl rfl (by omega) ?_))
    exact ⟨.inr rfl, e1, rfl⟩
/-- The number with the least absolute value. -/
def lfM (p a : Nat) : Int := if p / 2 < a then -((p - a : Nat) : Int) else (a : Nat)
/-- Inverses by powers. -/
def invP (p a : Nat) : Nat := powM p 64 1 a (p - 2)
theorem call121 (h0 : Heap) (p g a : Nat) (hp : 2 ≤ p ∧ p < 18446744073709551616) (ha : a < 18446744073709551616) : ∃ r h', Cal FT HKt 121 [fld p g, u a] h0 r h' ∧ Ext h0 h' ∧ r = u (invP p a) := by
  refine Cal.of (F := a121) rfl rfl rfl ?_
  unfold invP
  have e : ((p : Int) - 2) = ((p - 2 : Nat) : Int) := by omega
  have k := fun H => call119 H p g a (p - 2) ⟨by omega, hp.2⟩ ha (by omega)
  repeat' (first | refine w_seq ?_ | refine w_seqN ?_ | refine w_ret ?_ | refine w_ops ?_ | ((refine i_nil ?_); first | refine w_end1 rfl ?_ | refine w_end2 rfl rfl ?_) | ((refine i_cons ?_); first | (refine k_boxC rfl ?_; intro h1 e1 c1) | refine k_fldA rfl ?_ | refine k_ldC0 rfl c1 ?_ | refine k_ldC rfl c1 ?_ | (refine k_subV rfl rfl (by omega) ?_; rw [e]) | (refine k_call rfl (k _) ?_; rintro v h2 ⟨e2, rfl⟩) | refine k_mv rfl ?_))
  exact ⟨.inr rfl, e1.trans e2, rfl⟩
end Go.Proofs.YtofknpknogfijaaGreatDoor

