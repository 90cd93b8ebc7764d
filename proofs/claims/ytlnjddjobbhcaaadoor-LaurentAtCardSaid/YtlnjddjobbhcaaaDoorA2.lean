/- Values: At at every small argument, and what the law says of them. -/
import Derived.Test.YtlnjddjobbhcaaaDoorA1
import Derived.Test.YtlnjddjobbhcaaaDoorC3
namespace Go.Proofs.YtlnjddjobbhcaaaDoor
open Go.Ab
set_option linter.unusedVariables false
set_option linter.unusedSimpArgs false
set_option maxHeartbeats 4000000

/-- What At answers, in every case. -/
structure IsV (x L : Int) (ts : List Tm) (m : Int) (d : Nat) : Prop where
  z : x = 0 → m = cf ts 0 ∧ d = 1
  o : x = 1 ∨ x = -1 → m = sv x ts ∧ d = 1
  f : 2 ≤ x.natAbs → IsFr x L ts m d
theorem call32v (h0 : Heap) (s : SV) (ts : List Tm) (x L : Int) (hs : IsD h0 s (tms ts)) (hc : Can ts) (hx : x.natAbs ≤ 4) (hL : -8 ≤ L ∧ L ≤ 0) (he : ∀ t ∈ ts, L ≤ t.1 ∧ t.1 ≤ 8 ∧ t.2.natAbs ≤ 50000) (hB : 2 ≤ x.natAbs → pa x.natAbs L ts ≤ 1125899906842624) (hz : x = 0 → ¬ lo0 ts < 0) :
    ∃ r h', Cal FT HKt 32 [.agg [.bool false, s], .sc (.int .i64 x)] h0 r h' ∧ Ext h0 h' ∧ ∃ (m : Int) (d : Nat), IsV x L ts m d ∧ r = .tup [.sc (.int .i64 m), .sc (.int .i64 (d : Nat)), .sc (.int .i64 0)] := by
  have hlen : ts.length ≤ 17 := can_len (lo := -8) hc fun t ht => by have := he t ht; omega
  by_cases h0x : x = 0
  · subst h0x
    obtain ⟨r, h', c, e, hr⟩ := call32z h0 s ts hs hc (by omega)
    rw [if_neg (hz rfl)] at hr
    exact ⟨r, h', c, e, cf ts 0, 1, ⟨fun _ => ⟨rfl, rfl⟩, fun h => by omega, fun h => by simp at h⟩, hr⟩
  by_cases h1x : x = 1 ∨ x = -1
  · obtain ⟨r, h', c, e, m, n, er, hA, hr⟩ := call32s h0 s x ts hs (fun t ht => by have := he t ht; simp only [eM, cM]; omega) (by omega) h1x
    have hb1 := sv_abs x ts
    have hb2 : ca ts ≤ ts.length * 50000 := by
      have : ∀ l : List Tm, (∀ t ∈ l, t.2.natAbs ≤ 50000) → ca l ≤ l.length * 50000 := fun l => by
        induction l with
        | nil => intro _; exact Nat.zero_le _
        | cons t r ih =>
          intro h
          have := ih fun u hu => h u (.tail _ hu)
          have := h t (.head _)
          rw [ca, List.length_cons, Nat.succ_mul]; omega
      exact this ts fun t ht => (he t ht).2.2
    have hV : (sv x ts).natAbs ≤ 1125899906842624 := by omega
    rcases hA with ⟨_, rfl, rfl, rfl⟩ | ⟨h, _⟩
    · exact ⟨r, h', c, e, sv x ts, 1, ⟨fun h => absurd h h0x, fun _ => ⟨rfl, rfl⟩, fun h => by omega⟩, hr⟩
    · exact absurd hV h
  · have hx2 : 2 ≤ x.natAbs := by omega
    have hX : x.natAbs ^ (0 - L).toNat ≤ 1125899906842624 := by
      have h1 : x.natAbs ^ (0 - L).toNat ≤ 4 ^ (0 - L).toNat := Nat.pow_le_pow_left hx _
      have h2 : 4 ^ (0 - L).toNat ≤ 4 ^ 8 := Nat.pow_le_pow_right (by omega) (by omega)
      omega
    obtain ⟨r, h', c, e, m, d, F, hr⟩ := call32f h0 s ts x L hs hc ⟨hx2, by omega⟩ hL.2 (fun t ht => by have := he t ht; simp only [eM, cM]; omega) (hB hx2) hX (by omega)
    exact ⟨r, h', c, e, m, d, ⟨fun h => absurd h h0x, fun h => absurd h h1x, fun _ => F⟩, hr⟩
theorem IsV.den {x L : Int} {ts : List Tm} {m : Int} {d : Nat} (f : IsV x L ts m d) (hx : x.natAbs ≤ 4) (k : Nat) (hL : (0 - L).toNat = k) : 1 ≤ d ∧ d ≤ 4 ^ k ∧ Nat.gcd m.natAbs d = 1 := by
  have hp : 1 ≤ 4 ^ k := Nat.pow_pos (by omega)
  by_cases h0 : x = 0
  · obtain ⟨-, rfl⟩ := f.z h0
    exact ⟨Nat.le_refl _, hp, Nat.gcd_one_right _⟩
  by_cases h1 : x = 1 ∨ x = -1
  · obtain ⟨-, rfl⟩ := f.o h1
    exact ⟨Nat.le_refl _, hp, Nat.gcd_one_right _⟩
  · have F := f.f (by omega)
    refine ⟨F.d1, Nat.le_trans F.dX ?_, F.cop⟩
    rw [hL]
    exact Nat.pow_le_pow_left hx _
theorem pow_ne {x : Int} (hx : 2 ≤ x.natAbs) (k : Nat) : x ^ k ≠ 0 := fun h => by
  have := congrArg Int.natAbs h
  rw [Int.natAbs_pow] at this
  have : 0 < x.natAbs ^ k := Nat.pow_pos (by omega)
  omega
/-- A sum's value. -/
theorem fin_add {x : Int} {p q : List Tm} {m k s : Int} {n l t : Nat} (fp : IsV x (-4) p m n) (fq : IsV x (-4) q k l) (fs : IsV x (-4) (mA p q) s t) (hx : x.natAbs ≤ 4) : s * n * l = (m * l + k * n) * t := by
  by_cases h0 : x = 0
  · obtain ⟨rfl, rfl⟩ := fp.z h0
    obtain ⟨rfl, rfl⟩ := fq.z h0
    obtain ⟨rfl, rfl⟩ := fs.z h0
    have : cf (mA p q) 0 = cf p 0 + cf q 0 := S_mA _ p q
    rw [this]; simp
  by_cases h1 : x = 1 ∨ x = -1
  · obtain ⟨rfl, rfl⟩ := fp.o h1
    obtain ⟨rfl, rfl⟩ := fq.o h1
    obtain ⟨rfl, rfl⟩ := fs.o h1
    have : sv x (mA p q) = sv x p + sv x q := S_mA _ p q
    rw [this]; simp
  · have hx2 : 2 ≤ x.natAbs := by omega
    have e1 := (fp.f hx2).eq
    have e2 := (fq.f hx2).eq
    have e3 := (fs.f hx2).eq
    have e4 : pv x (-4) (mA p q) = pv x (-4) p + pv x (-4) q := S_mA _ p q
    rw [e4] at e3
    have hX := pow_ne hx2 (0 - (-4 : Int)).toNat
    generalize x ^ (0 - (-4 : Int)).toNat = Z at *
    generalize pv x (-4) p = a at *
    generalize pv x (-4) q = b at *
    refine Int.eq_of_mul_eq_mul_right hX ?_
    have h2 : s * n * l * Z = (s * Z) * n * l := by simp only [Int.mul_assoc, Int.mul_comm, Int.mul_left_comm]
    have h3 : (m * l + k * n) * t * Z = ((m * Z) * l + (k * Z) * n) * t := by simp only [Int.add_mul, Int.mul_add, Int.mul_assoc, Int.mul_comm, Int.mul_left_comm]
    rw [h2, h3, e1, e2, e3]
    simp only [Int.add_mul, Int.mul_add, Int.mul_assoc, Int.mul_comm, Int.mul_left_comm]
/-- A product's value. -/
theorem fin_mul {x : Int} {p q M : List Tm} {m k u : Int} {n l v : Nat} (fp : IsV x (-4) p m n) (fq : IsV x (-4) q k l) (fu : IsV x (-8) M u v) (hx : x.natAbs ≤ 4) (hz : x = 0 → cf M 0 = cf p 0 * cf q 0) (ho : sv x M = sv x p * sv x q) (hf : pv x (-8) M = pv x (-4) p * pv x (-4) q) : u * n * l = m * k * v := by
  by_cases h0 : x = 0
  · obtain ⟨rfl, rfl⟩ := fp.z h0
    obtain ⟨rfl, rfl⟩ := fq.z h0
    obtain ⟨rfl, rfl⟩ := fu.z h0
    rw [hz h0]; simp
  by_cases h1 : x = 1 ∨ x = -1
  · obtain ⟨rfl, rfl⟩ := fp.o h1
    obtain ⟨rfl, rfl⟩ := fq.o h1
    obtain ⟨rfl, rfl⟩ := fu.o h1
    rw [ho]; simp
  · have hx2 : 2 ≤ x.natAbs := by omega
    have e1 := (fp.f hx2).eq
    have e2 := (fq.f hx2).eq
    have e3 := (fu.f hx2).eq
    rw [hf] at e3
    have hX := pow_ne hx2 (0 - (-4 : Int)).toNat
    have h8 : x ^ (0 - (-8 : Int)).toNat = x ^ (0 - (-4 : Int)).toNat * x ^ (0 - (-4 : Int)).toNat := by rw [← Int.pow_add]; rfl
    rw [h8] at e3
    generalize x ^ (0 - (-4 : Int)).toNat = Z at *
    generalize pv x (-4) p = a at *
    generalize pv x (-4) q = b at *
    refine Int.eq_of_mul_eq_mul_right (Int.mul_ne_zero hX hX) ?_
    have h2 : u * n * l * (Z * Z) = (u * (Z * Z)) * n * l := by simp only [Int.mul_assoc, Int.mul_comm, Int.mul_left_comm]
    have h3 : m * k * v * (Z * Z) = (m * Z) * (k * Z) * v := by simp only [Int.mul_assoc, Int.mul_comm, Int.mul_left_comm]
    rw [h2, h3, e1, e2, e3]
    simp only [Int.mul_assoc, Int.mul_comm, Int.mul_left_comm]
/-- How great a numerator is. -/
theorem IsV.num {x L : Int} {ts : List Tm} {m : Int} {d : Nat} (f : IsV x L ts m d) (hx : x.natAbs ≤ 4) {B : Nat} (hB : ∀ X : Nat, 1 ≤ X → X ≤ 4 → pa X L ts ≤ B) (hc : Can ts) (hcf : ∀ t ∈ ts, t.2.natAbs ≤ B) : m.natAbs ≤ B := by
  by_cases h0 : x = 0
  · obtain ⟨rfl, -⟩ := f.z h0
    exact cf_abs hc hcf 0
  by_cases h1 : x = 1 ∨ x = -1
  · obtain ⟨rfl, -⟩ := f.o h1
    have h2 := sv_abs x ts
    have h3 := ca_le 1 (by omega) L ts
    have := hB 1 (by omega) (by omega)
    omega
  · exact Nat.le_trans ((f.f (by omega)).bound (by omega)) (hB _ (by omega) hx)
end Go.Proofs.YtlnjddjobbhcaaaDoor
