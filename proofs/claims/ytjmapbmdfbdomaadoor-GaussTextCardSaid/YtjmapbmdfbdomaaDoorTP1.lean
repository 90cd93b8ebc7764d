/- Plainly: lists of words with a space between; numerals. -/
import Derived.Test.YtjmapbmdfbdomaaDoorAb32
import Derived.Lib.ItoaNum
import Derived.Lib.ItoaLen
import Derived.Lib.ItoaMem
import Derived.Lib.Split
import Derived.Lib.SplitLaws
import Derived.Lib.AtoiAll
import Derived.Lib.AtoiAllCases
namespace Go.Proofs.YtjmapbmdfbdomaaDoor
open Go.Lib
set_option linter.unusedVariables false

/-- Words, a space between. -/
def joinS (ws : List (List UInt8)) : List UInt8 := ((ws.map (32 :: ·)).flatten).drop 1
theorem joinS_nil : joinS [] = [] := rfl
theorem joinS_one (w : List UInt8) : joinS [w] = w := by simp [joinS]
theorem joinS_cons (w v : List UInt8) (r : List (List UInt8)) : joinS (w :: v :: r) = w ++ 32 :: joinS (v :: r) := by simp [joinS]
theorem joinS_snoc {ws : List (List UInt8)} (w : List UInt8) (h : ws ≠ []) : joinS (ws ++ [w]) = joinS ws ++ 32 :: w := by
  cases ws with
  | nil => exact absurd rfl h
  | cons a r => simp [joinS]
theorem joinS_len : ∀ (ws : List (List UInt8)) (k : Nat), (∀ w ∈ ws, w.length ≤ k) → (joinS ws).length ≤ ws.length * (k + 1)
  | [], k, _ => by simp [joinS]
  | [w], k, h => by
    rw [joinS_one]
    have := h w (by simp)
    simp; omega
  | w :: v :: r, k, h => by
    rw [joinS_cons]
    have h1 := h w (by simp)
    have h2 := joinS_len (v :: r) k (fun x hx => h x (by simp at hx ⊢; right; exact hx))
    simp only [List.length_append, List.length_cons] at h2 ⊢
    rw [Nat.succ_mul]
    omega

def In64 (x : Int) : Prop := -9223372036854775808 ≤ x ∧ x ≤ 9223372036854775807
/-- The text of a list of numbers. -/
def listT (xs : List Int) : List UInt8 := joinS (xs.map itoa)
theorem listT_len (xs : List Int) (h : ∀ x ∈ xs, In64 x) : (listT xs).length ≤ xs.length * 22 := by
  have := joinS_len (xs.map itoa) 21 (fun w hw => by
    obtain ⟨x, hx, rfl⟩ := List.mem_map.1 hw
    exact itoa_length_le x (h x hx).1 (h x hx).2)
  rw [List.length_map] at this
  exact this
theorem listT_first (x : Int) : listT [x] = itoa x := joinS_one _
theorem listT_snoc {xs : List Int} (x : Int) (h : xs ≠ []) : listT (xs ++ [x]) = listT xs ++ 32 :: itoa x := by
  unfold listT
  rw [List.map_append]
  exact joinS_snoc _ (by simpa using h)
theorem listT_cons (x y : Int) (r : List Int) : listT (x :: y :: r) = itoa x ++ 32 :: listT (y :: r) := joinS_cons _ _ _

/-! ### Numerals -/
def dgt (c : UInt8) : Prop := 48 ≤ c.toNat ∧ c.toNat ≤ 57
theorem dgt_of {k : Nat} (h : k < 10) : dgt (UInt8.ofNat (48 + k)) ∧ (UInt8.ofNat (48 + k)).toNat = 48 + k := by
  have : (UInt8.ofNat (48 + k)).toNat = 48 + k := by rw [UInt8.toNat_ofNat']; omega
  exact ⟨by unfold dgt; omega, this⟩
theorem dec_dgt (u : Nat) : ∀ c ∈ decDigits u, dgt c := by
  rw [decDigits_eq]
  intro c hc
  obtain ⟨t, ht, rfl⟩ := List.mem_map.1 hc
  unfold dg
  exact (dgt_of (Nat.mod_lt _ (by decide))).1
theorem dec_ne (u : Nat) : decDigits u ≠ [] := fun h => by
  have := decDigits_length u
  rw [h] at this
  have := nDigits_pos u
  simp at *; omega
/-- The digits of a number, read again. -/
theorem parse_app : ∀ (l m : List UInt8) (acc u : Nat), parseUint10 acc l = .ok u → parseUint10 acc (l ++ m) = parseUint10 u m
  | [], m, acc, u, h => by
    simp only [parseUint10] at h
    injection h with h
    subst h; rfl
  | c :: r, m, acc, u, h => by
    simp only [parseUint10, List.cons_append] at h ⊢
    split at h
    · rename_i h1
      rw [if_pos h1]
      split at h
      · cases h
      · rename_i h2
        rw [if_neg h2]
        split at h
        · cases h
        · rename_i h3
          rw [if_neg h3]
          exact parse_app r m _ u h
    · cases h
theorem parse_dec (u : Nat) (hu : u < 9223372036854775808) : parseUint10 0 (decDigits u) = .ok u := by
  induction u using Nat.strongRecOn with
  | _ u ih =>
    by_cases h : u < 10
    · rw [decDigits_one h]
      obtain ⟨h1, h2⟩ := dgt_of h
      unfold dgt at h1
      simp only [parseUint10]
      rw [if_pos h1, if_neg (by omega), if_neg (by omega), h2]
      congr 1; omega
    · rw [decDigits, dif_neg h, parse_app _ _ _ _ (ih (u / 10) (by omega) (by omega))]
      obtain ⟨h1, h2⟩ := dgt_of (Nat.mod_lt u (by decide : 0 < 10))
      unfold dgt at h1
      simp only [parseUint10]
      rw [if_pos h1, if_neg (by omega), if_neg (by omega), h2]
      congr 1; omega
theorem atoi_dec (u : Nat) (hu : u < 9223372036854775808) : atoiAll (decDigits u) = .ok (u : Int) := by
  have h1 := parse_dec u hu
  have h2 := dec_dgt u
  have h3 := dec_ne u
  cases hd : decDigits u with
  | nil => exact absurd hd h3
  | cons c r =>
    rw [hd] at h1 h2
    have hc := h2 c (by simp)
    unfold dgt at hc
    rw [atoiAll_plain c r (by omega) (by omega)]
    unfold parseMag
    rw [if_neg (by simp), h1]
    unfold signless
    simp only
    rw [if_neg (by omega)]
theorem itoa_nat {x : Int} (h : 0 ≤ x) : itoa x = decDigits x.toNat := by
  unfold itoa; rw [if_neg (by omega)]
theorem atoi_itoa {x : Int} (h0 : 0 ≤ x) (h1 : x ≤ 9223372036854775807) : atoiAll (itoa x) = .ok x := by
  rw [itoa_nat h0, atoi_dec _ (by omega)]
  congr 1; omega
theorem atoi_itoa_all {x : Int} (h0 : -4611686018427387904 ≤ x) (h1 : x ≤ 4611686018427387904) : atoiAll (itoa x) = .ok x := by
  by_cases hx : 0 ≤ x
  · exact atoi_itoa hx (by omega)
  · have e : itoa x = 45 :: decDigits x.natAbs := by unfold itoa; rw [if_pos (by omega)]
    rw [e, atoiAll_minus]
    unfold parseMag
    rw [if_neg (dec_ne _), parse_dec _ (by omega)]
    simp only [signed]
    rw [if_neg (by omega)]
    congr 1; omega
/-- No space in a numeral. -/
theorem itoa_dgt {x : Int} (h : 0 ≤ x) : ∀ c ∈ itoa x, dgt c := by rw [itoa_nat h]; exact dec_dgt _
theorem itoa_ne {x : Int} (h : 0 ≤ x) : itoa x ≠ [] := by rw [itoa_nat h]; exact dec_ne _
theorem itoa_one {x : Int} (h : 0 ≤ x) (h1 : x < 10) : itoa x = [UInt8.ofNat (48 + x.toNat)] := by rw [itoa_nat h, decDigits_one (by omega)]
theorem itoa_two {x : Int} (h : 10 ≤ x) (h1 : x < 100) : itoa x = [UInt8.ofNat (48 + x.toNat / 10), UInt8.ofNat (48 + x.toNat % 10)] := by rw [itoa_nat (by omega), decDigits_two (by omega) (by omega)]
end Go.Proofs.YtjmapbmdfbdomaaDoor
