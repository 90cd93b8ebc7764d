/- The law LaurentValue. -/
import Derived.Test.YtlnjddjobbhcaaaDoorV8
import Derived.Test.YtlnjddjobbhcaaaDoorQS
import Derived.Test.YtlnjddjobbhcaaaDoorT5
namespace Go.Proofs.YtlnjddjobbhcaaaDoor
open Go.Ab
set_option linter.unusedVariables false
set_option linter.unusedSimpArgs false
set_option maxRecDepth 20000
set_option maxHeartbeats 16000000
attribute [local irreducible] wOps wA wSeq wBlk wRound wRoundI wOpsD wOpsS

/-- The coefficients' sum, each times what f says of its exponent. -/
def sX (f : Int → Int) (low : Int) (xs : List Int) : Nat → Int
  | 0 => 0
  | i + 1 => sX f low xs i + xs.getD i 0 * f (low + i)
theorem ofN_S (f : Int → Int) {low : Int} {xs : List Int} : ∀ {i : Nat} {r : List Tm}, ofN low xs i = some r → S f r = sX f low xs i ∧ ∀ k, k < i → (xs.getD k 0).natAbs ≤ cM
  | 0, r, h => by
    simp [ofN] at h; subst h
    exact ⟨rfl, fun k hk => absurd hk (Nat.not_lt_zero _)⟩
  | i + 1, r', h => by
    rw [ofN, Option.bind_eq_some_iff] at h
    obtain ⟨r, h1, h⟩ := h
    obtain ⟨a, b⟩ := ofN_S f h1
    split at h
    · rename_i hz
      cases h
      refine ⟨by rw [sX, ← a, hz]; omega, fun k hk => ?_⟩
      by_cases e : k = i
      · rw [e, hz]; simp [cM]
      · exact b k (by omega)
    · split at h
      · rename_i hz hb
        cases h
        refine ⟨by rw [sX, ← a, S_app]; show S f r + (xs.getD i 0 * f (low + i) + 0) = _; omega, fun k hk => ?_⟩
        by_cases e : k = i
        · rw [e]; exact hb.1
        · exact b k (by omega)
      · cases h
theorem sX_abs {f : Int → Int} (hf : ∀ e, (f e).natAbs ≤ 1) {low : Int} {xs : List Int} {n : Nat} (hb : ∀ k, k < n → (xs.getD k 0).natAbs ≤ cM) : ∀ {i : Nat}, i ≤ n → (sX f low xs i).natAbs ≤ i * cM
  | 0, _ => by simp [sX]
  | i + 1, h => by
    have := sX_abs hf hb (low := low) (i := i) (by omega)
    have h1 := hb i (by omega)
    have h2 : (xs.getD i 0 * f (low + i)).natAbs ≤ cM := by
      rw [Int.natAbs_mul]
      exact Nat.le_trans (Nat.mul_le_mul_left _ (hf _)) (by omega)
    rw [sX, Nat.succ_mul]; omega
theorem ofP_S (f : Int → Int) {low : Int} {xs : List Int} (h : (ofP low xs).big = false) : S f (ofP low xs).ts = sX f low xs xs.length ∧ ∀ k, k < xs.length → (xs.getD k 0).natAbs ≤ cM := by
  unfold ofP at h ⊢
  cases hr : ofN low xs xs.length with
  | none => rw [hr] at h; simp [bigP] at h
  | some r => exact ofN_S f hr
def I8 (h0 : Heap) (low : Int) (s : SV) (xs : List Int) (c e x m n er k l fr : Int) (E : Env) (h : Heap) : Prop := h = h0 ∧ ∃ i : Nat, i ≤ xs.length ∧
  E.keep [0, 1, 2, 3, 4, 12, 13, 14, 15, 16, 17, 18, 19, 20] = [(0, some (.sc (.int .i64 low))), (1, some (.sc s)), (2, some (.sc (.int .i64 c))), (3, some (.sc (.int .i64 e))), (4, some (.sc (.int .i64 x))), (12, some (.sc (.int .i64 m))), (13, some (.sc (.int .i64 n))), (14, some (.sc (.int .i64 er))), (15, some (.sc (.int .i64 k))), (16, some (.sc (.int .i64 l))), (17, some (.sc (.int .i64 fr))), (18, some (.sc (.int .i64 (sX (sgE 1) low xs i)))), (19, some (.sc (.int .i64 (sX (sgE (-1)) low xs i)))), (20, some (.sc (.int .i64 (i : Nat))))]
def R8 (h0 : Heap) (low : Int) (xs : List Int) (c e x m n er k l fr : Int) (ex : Ex) (E : Env) (h : Heap) : Prop := h = h0 ∧ ex = .ex 0 ∧ ∃ a b d f,
  E = [(0, a), (1, b), (2, some (.sc (.int .i64 c))), (3, some (.sc (.int .i64 e))), (4, some (.sc (.int .i64 x))), (12, some (.sc (.int .i64 m))), (13, some (.sc (.int .i64 n))), (14, some (.sc (.int .i64 er))), (15, some (.sc (.int .i64 k))), (16, some (.sc (.int .i64 l))), (17, some (.sc (.int .i64 fr))), (18, some (.sc (.int .i64 (sX (sgE 1) low xs xs.length)))), (19, some (.sc (.int .i64 (sX (sgE (-1)) low xs xs.length)))), (20, d), (64, f)]
def I8p (h0 : Heap) (c x : Int) (e : Nat) (E : Env) (h : Heap) : Prop := h = h0 ∧ ∃ i : Nat, i ≤ e ∧
  E.keep [2, 3, 4, 21, 174, 175] = [(2, some (.sc (.int .i64 c))), (3, some (.sc (.int .i64 (e : Nat)))), (4, some (.sc (.int .i64 x))), (21, some (.sc (.int .i64 (x ^ i)))), (174, some (.sc (.int .i64 (e : Nat)))), (175, some (.sc (.int .i64 (i : Nat))))]
def R8p (h0 : Heap) (c x : Int) (e : Nat) (ex : Ex) (E : Env) (h : Heap) : Prop := h = h0 ∧ ex = .ex 2 ∧ ∃ a b d,
  E = [(2, some (.sc (.int .i64 c))), (3, some (.sc (.int .i64 (e : Nat)))), (4, some (.sc (.int .i64 x))), (21, some (.sc (.int .i64 (x ^ e)))), (174, a), (175, b), (176, d)]
theorem pow_small {x : Int} (hx : 2 ≤ x ∧ x ≤ 20) {i : Nat} (hi : i ≤ 6) : 1 ≤ x ^ i ∧ x ^ i ≤ 64000000 := by
  obtain ⟨n, rfl⟩ : ∃ n : Nat, x = n := ⟨x.toNat, by omega⟩
  have h1 : 1 ≤ n ^ i := Nat.pow_pos (by omega)
  have h2 : n ^ i ≤ n ^ 6 := Nat.pow_le_pow_right (by omega) hi
  have h3 : n ^ 6 ≤ 20 ^ 6 := Nat.pow_le_pow_left (by omega) 6
  have h4 : ((n : Int)) ^ i = ((n ^ i : Nat) : Int) := (Int.natCast_pow n i).symm
  rw [h4]
  generalize n ^ i = A at *
  omega
theorem fin1 {x c : Int} {e : Nat} {m : Int} {d : Nat} (f : IsFr x 0 [((e : Int), c)] m d) : d = 1 ∧ m = c * x ^ e := by
  have h1 := f.eq
  have h2 := f.dX
  have h3 := f.d1
  simp at h1 h2
  obtain rfl : d = 1 := by omega
  refine ⟨rfl, ?_⟩
  rw [h1]
  show ((1 : Nat) : Int) * (c * x ^ ((e : Int) - 0).toNat + 0) = _
  rw [show ((e : Int) - 0).toNat = e by omega]; omega
theorem fin2 {x c : Int} {e : Nat} {m : Int} {d : Nat} (hx : 2 ≤ x ∧ x ≤ 20) (hc : c.natAbs ≤ 1000) (he : e ≤ 6) (f : IsFr x (-(e : Int)) [(-(e : Int), c)] m d) : m * x ^ e = c * d ∧ Nat.gcd m.natAbs d = 1 ∧ 1 ≤ d ∧ d ≤ 64000000 ∧ m.natAbs ≤ 1000 := by
  have h1 := f.eq
  have h2 := f.dX
  have hb := f.bound (by omega)
  rw [show (0 - -(e : Int)).toNat = e by omega] at h1 h2
  have e1 : pv x (-(e : Int)) [(-(e : Int), c)] = c := by
    show c * x ^ (-(e : Int) - -(e : Int)).toNat + 0 = c
    rw [show (-(e : Int) - -(e : Int)).toNat = 0 by omega]; simp
  have e2 : pa x.natAbs (-(e : Int)) [(-(e : Int), c)] = c.natAbs := by
    show c.natAbs * x.natAbs ^ (-(e : Int) - -(e : Int)).toNat + 0 = c.natAbs
    rw [show (-(e : Int) - -(e : Int)).toNat = 0 by omega]; simp
  rw [e1] at h1
  rw [e2] at hb
  have h3 := pow_small hx he
  have h4 : ((x.natAbs ^ e : Nat) : Int) = x ^ e := by
    rw [Int.natCast_pow, show (x.natAbs : Int) = x by omega]
  refine ⟨by rw [h1, Int.mul_comm], f.cop, f.d1, by omega, by omega⟩
theorem can1 (e c : Int) (hc : c ≠ 0) : Can [(e, c)] := ⟨by simp, by simp [hc]⟩
end Go.Proofs.YtlnjddjobbhcaaaDoor
