/- The text of a diagram, read again. -/
import Derived.Test.YtehnalbdfnmphaaDoorRP1
import Derived.Test.YtehnalbdfnmphaaDoorP7
namespace Go.Proofs.YtehnalbdfnmphaaDoor
open Go.Ab
set_option linter.unusedVariables false

/-! ### Numerals -/
theorem rdN_app : ∀ (a b : List UInt8) (v : Int), rdN (a ++ b) v = (rdN a v).bind (rdN b)
  | [], b, v => rfl
  | c :: a, b, v => by
    simp only [List.cons_append, rdN]
    split
    · rfl
    · exact rdN_app a b _
theorem rdN_dig : ∀ {s : List UInt8} {v x : Int}, rdN s v = some x → ∀ c ∈ s, 48 ≤ c.toNat ∧ c.toNat ≤ 57
  | [], v, x, h, c, hc => by simp at hc
  | d :: s, v, x, h, c, hc => by
    simp only [rdN] at h
    split at h
    · cases h
    · rcases List.mem_cons.1 hc with rfl | hc
      · omega
      · exact rdN_dig h c hc
theorem dig_nat {r : Nat} (h : r < 10) : (UInt8.ofNat (48 + r)).toNat = 48 + r := by rw [UInt8.toNat_ofNat']; omega
theorem rdN_dec : ∀ n : Nat, rdN (Lib.decDigits n) 0 = some (n : Int) := by
  intro n
  induction n using Nat.strongRecOn with
  | _ n ih =>
    rw [Lib.decDigits]
    split
    · rename_i h
      simp only [rdN, dig_nat h]
      rw [if_neg (by omega)]
      congr 1; omega
    · rename_i h
      rw [rdN_app, ih (n / 10) (by omega)]
      have hr : n % 10 < 10 := by omega
      simp only [Option.bind_some, rdN, dig_nat hr]
      rw [if_neg (by omega)]
      congr 1; omega
theorem dec_head : ∀ n : Nat, 1 ≤ n → ∃ c r, Lib.decDigits n = c :: r ∧ c.toNat ≠ 48 := by
  intro n
  induction n using Nat.strongRecOn with
  | _ n ih =>
    intro h1
    rw [Lib.decDigits]
    split
    · rename_i h
      exact ⟨_, _, rfl, by rw [dig_nat h]; omega⟩
    · rename_i h
      obtain ⟨c, r, e, hc⟩ := ih (n / 10) (by omega) (by omega)
      rw [e]
      exact ⟨c, _, rfl, hc⟩
theorem dec_length : ∀ (k n : Nat), n < 10 ^ (k + 1) → (Lib.decDigits n).length ≤ k + 1
  | 0, n, h => by
    rw [Lib.decDigits, dif_pos (by simpa using h)]; simp
  | k + 1, n, h => by
    rw [Lib.decDigits]
    split
    · simp
    · have := dec_length k (n / 10) (by
        rw [Nat.pow_succ] at h
        omega)
      rw [List.length_append, List.length_singleton]
      omega
theorem numA_itoa {x a b : Int} (h0 : 0 ≤ x) (h9 : x ≤ 9999) (ha : a ≤ x) (hb : x ≤ b) : numA (Lib.itoa x) a b = some x := by
  have e : Lib.itoa x = Lib.decDigits x.toNat := by
    have := Lib.itoa_nonneg x.toNat
    rwa [Int.toNat_of_nonneg h0] at this
  rw [e]
  have h1 := rdN_dec x.toNat
  rw [Int.toNat_of_nonneg h0] at h1
  have h2 := dec_length 3 x.toNat (by omega)
  have hne : Lib.decDigits x.toNat ≠ [] := fun e2 => by
    rw [e2] at h1
    simp only [rdN, Option.some.injEq] at h1
    subst h1
    exact absurd e2 (by rw [Lib.decDigits]; simp)
  have h3 : ¬ (1 < (Lib.decDigits x.toNat).length ∧ (Lib.decDigits x.toNat)[0]? = some 48) := by
    rintro ⟨l1, l2⟩
    by_cases hx : x.toNat < 10
    · rw [Lib.decDigits, dif_pos hx] at l1
      simp at l1
    · obtain ⟨c, r, e2, hc⟩ := dec_head x.toNat (by omega)
      rw [e2] at l2
      simp at l2
      subst l2
      exact hc rfl
  unfold numA
  rw [if_neg (by rintro (h | h | h); exact hne h; exact h3 h; omega), h1]
  simp only []
  rw [if_neg (by omega)]
theorem itoa_dig {x : Int} (h0 : 0 ≤ x) : ∀ c ∈ Lib.itoa x, 48 ≤ c.toNat ∧ c.toNat ≤ 57 := by
  have e : Lib.itoa x = Lib.decDigits x.toNat := by
    have := Lib.itoa_nonneg x.toNat
    rwa [Int.toNat_of_nonneg h0] at this
  rw [e]
  exact rdN_dig (rdN_dec _)
theorem itoa_no {x : Int} (h0 : 0 ≤ x) {c : UInt8} (hc : c.toNat < 48) : c ∉ Lib.itoa x := fun hm => by
  have := itoa_dig h0 c hm
  omega

/-! ### Lines -/
def rowOf (xs lb : List Int) (c : Nat) : Int × List Int := (xs.getD c 0, [lb.getD (4 * c + 0) 0, lb.getD (4 * c + 1) 0, lb.getD (4 * c + 2) 0, lb.getD (4 * c + 3) 0])
def rowsOf (xs lb : List Int) (n : Nat) : List (Int × List Int) := (List.range n).map (rowOf xs lb)
/-- Labels as they may be. -/
def LabR (lb : List Int) (N : Nat) : Prop := ∀ g, g < N → 1 ≤ lb.getD g 0 ∧ lb.getD g 0 ≤ 9999
theorem rowK_form (xs lb : List Int) (c : Nat) : rowK xs lb c 4 = sgT (xs.getD c 0) ++ 32 :: (Lib.itoa (lb.getD (4 * c + 0) 0) ++ 32 :: (Lib.itoa (lb.getD (4 * c + 1) 0) ++ 32 :: (Lib.itoa (lb.getD (4 * c + 2) 0) ++ 32 :: Lib.itoa (lb.getD (4 * c + 3) 0)))) := by
  simp only [rowK, List.append_assoc, List.cons_append, List.nil_append]
theorem row_crs {xs lb : List Int} {N c : Nat} (hs : Sgn (xs.getD c 0)) (hl : LabR lb N) (hc : 4 * c + 4 ≤ N) : crs (rowK xs lb c 4) = some (rowOf xs lb c) ∧ (10 : UInt8) ∉ rowK xs lb c 4 := by
  obtain ⟨a1, a2⟩ := hl (4 * c + 0) (by omega)
  obtain ⟨b1, b2⟩ := hl (4 * c + 1) (by omega)
  obtain ⟨c1, c2⟩ := hl (4 * c + 2) (by omega)
  obtain ⟨d1, d2⟩ := hl (4 * c + 3) (by omega)
  have hsg : ((32 : UInt8) ∉ sgT (xs.getD c 0) ∧ (10 : UInt8) ∉ sgT (xs.getD c 0)) := by
    unfold sgT; split <;> decide
  rw [rowK_form]
  constructor
  · unfold crs rowOf
    rw [spl_app hsg.1, spl_app (itoa_no (by omega) (by decide)), spl_app (itoa_no (by omega) (by decide)), spl_app (itoa_no (by omega) (by decide)), spl_no (itoa_no (by omega) (by decide))]
    unfold crsL
    simp only []
    rw [numA_itoa (by omega) a2 a1 a2, numA_itoa (by omega) b2 b1 b2, numA_itoa (by omega) c2 c1 c2, numA_itoa (by omega) d2 d1 d2]
    rcases hs with h | h <;> rw [h] <;> rfl
  · simp only [List.mem_append, List.mem_cons, not_or]
    exact ⟨hsg.2, by decide, itoa_no (by omega) (by decide), by decide, itoa_no (by omega) (by decide), by decide, itoa_no (by omega) (by decide), by decide, itoa_no (by omega) (by decide)⟩
theorem lin_rows {xs lb : List Int} (hs : ∀ x ∈ xs, Sgn x) (hl : LabR lb (4 * xs.length)) : ∀ (c : Nat) (R : List UInt8) (acc : List (Int × List Int)), c ≤ xs.length → linL (spl 10 (txtK xs lb c ++ R)) acc = linL (spl 10 R) (acc ++ rowsOf xs lb c)
  | 0, R, acc, _ => by simp [txtK, rowsOf]
  | c + 1, R, acc, hc => by
    have hx : Sgn (xs.getD c 0) := hs _ (by
      have : xs[c]? = some (xs.getD c 0) := by simp [List.getD, show c < xs.length by omega]
      exact List.mem_of_getElem? this)
    obtain ⟨h1, h2⟩ := row_crs hx hl (c := c) (by omega)
    have e : txtK xs lb (c + 1) ++ R = txtK xs lb c ++ (rowK xs lb c 4 ++ 10 :: R) := by simp [txtK]
    rw [e, lin_rows hs hl c _ acc (by omega), spl_app h2]
    obtain ⟨y, r, hy⟩ : ∃ y r, spl 10 R = y :: r := by
      cases hr : spl 10 R with
      | nil => exact absurd hr (spl_ne _ _)
      | cons y r => exact ⟨y, r, rfl⟩
    rw [hy, linL_cons, if_neg (fun hp => by rw [loops_crs hp] at h1; cases h1), h1]
    simp only []
    congr 1
    simp [rowsOf, List.range_succ]
theorem lin_txt {xs lb : List Int} {l : Int} (hs : ∀ x ∈ xs, Sgn x) (hl : LabR lb (4 * xs.length)) (h0 : 0 ≤ l) (h9 : l ≤ 999) : linL (spl 10 (txt xs lb l)) [] = some (rowsOf xs lb xs.length, l) := by
  unfold txt
  rw [List.append_assoc, List.append_assoc, lin_rows hs hl _ _ _ (Nat.le_refl _)]
  have hno : (10 : UInt8) ∉ loopsT ++ Lib.itoa l := by
    rw [List.mem_append]
    rintro (h | h)
    · exact absurd h (by decide)
    · exact itoa_no h0 (by decide) h
  have e : loopsT ++ (Lib.itoa l ++ [10]) = (loopsT ++ Lib.itoa l) ++ 10 :: [] := by simp
  rw [e, spl_app hno]
  have hi : isLoops (loopsT ++ Lib.itoa l) = true := decide_eq_true rfl
  have hd : (loopsT ++ Lib.itoa l).drop 6 = Lib.itoa l := rfl
  show linL ((loopsT ++ Lib.itoa l) :: [] :: []) _ = _
  rw [linL_cons, if_pos hi, hd, numA_itoa h0 (by omega) h0 h9]
  simp
theorem sgR_of {xs lb : List Int} : sgR (rowsOf xs lb xs.length) = xs := by
  refine List.ext_getElem? fun i => ?_
  by_cases hi : i < xs.length
  · simp [sgR, rowsOf, rowOf, hi]
  · rw [List.getElem?_eq_none (by simp [sgR, rowsOf]; omega), List.getElem?_eq_none (by omega)]
theorem rowsOf_row {xs lb : List Int} (hs : ∀ x ∈ xs, Sgn x) (hl : LabR lb (4 * xs.length)) : Row4 (rowsOf xs lb xs.length) := by
  intro p hp
  obtain ⟨c, hc, rfl⟩ := List.mem_map.1 hp
  rw [List.mem_range] at hc
  have hx : Sgn (xs.getD c 0) := hs _ (by
    have : xs[c]? = some (xs.getD c 0) := by simp [List.getD, hc]
    exact List.mem_of_getElem? this)
  refine ⟨hx, rfl, fun v hv => ?_⟩
  simp only [rowOf, List.mem_cons, List.not_mem_nil, or_false] at hv
  rcases hv with rfl | rfl | rfl | rfl <;> exact hl _ (by omega)
theorem lbR_of {xs lb : List Int} (hs : ∀ x ∈ xs, Sgn x) (hl : LabR lb (4 * xs.length)) (hlen : lb.length = 4 * xs.length) : lbR (rowsOf xs lb xs.length) = lb := by
  have hr := rowsOf_row hs hl
  have hll := lbR_len hr
  have hrl : (rowsOf xs lb xs.length).length = xs.length := by simp [rowsOf]
  rw [hrl] at hll
  refine List.ext_getElem? fun i => ?_
  by_cases hi : i < 4 * xs.length
  · have hc : i / 4 < xs.length := by omega
    have hrow : (rowsOf xs lb xs.length)[i / 4]? = some (rowOf xs lb (i / 4)) := by simp [rowsOf, hc]
    have h1 := lbR_at (i % 4) hr hrow (by omega)
    rw [show 4 * (i / 4) + i % 4 = i by omega] at h1
    have h2 : (lbR (rowsOf xs lb xs.length))[i]? = some ((lbR (rowsOf xs lb xs.length)).getD i 0) := by simp [List.getD, show i < (lbR (rowsOf xs lb xs.length)).length by omega]
    have h3 : lb[i]? = some (lb.getD i 0) := by simp [List.getD, show i < lb.length by omega]
    rw [h2, h3, h1]
    have h4 : i % 4 = 0 ∨ i % 4 = 1 ∨ i % 4 = 2 ∨ i % 4 = 3 := by omega
    rcases h4 with h | h | h | h
    · rw [h, show i = 4 * (i / 4) + 0 by omega, show (4 * (i / 4) + 0) / 4 = i / 4 by omega]; rfl
    · rw [h, show i = 4 * (i / 4) + 1 by omega, show (4 * (i / 4) + 1) / 4 = i / 4 by omega]; rfl
    · rw [h, show i = 4 * (i / 4) + 2 by omega, show (4 * (i / 4) + 2) / 4 = i / 4 by omega]; rfl
    · rw [h, show i = 4 * (i / 4) + 3 by omega, show (4 * (i / 4) + 3) / 4 = i / 4 by omega]; rfl
  · rw [List.getElem?_eq_none (by omega), List.getElem?_eq_none (by omega)]
/-- A text of a valid diagram, with any labels that pair its half-edges. -/
theorem par_txt {xs ms lb : List Int} {l : Int} (hV : PV xs ms l) (hL : LabOK ms lb) (hR : LabR lb (4 * xs.length)) (hlen : lb.length = 4 * xs.length) (hs : (txt xs lb l).length ≤ 65536) : parR (txt xs lb l) = .ok xs ms l.toNat := by
  have hF := hV.1
  have h1 := lin_txt (l := l) hF.sgn hR hF.l0 (by have := hF.l64; omega)
  have e1 : sgR (rowsOf xs lb xs.length) = xs := sgR_of
  have e2 := lbR_of hF.sgn hR hlen
  have e3 : (rowsOf xs lb xs.length).length = xs.length := by simp [rowsOf]
  have e4 := ok_mtL hF hL
  have := parR_ok (s := txt xs lb l) (by omega) h1 (by rw [e3]; have := hF.n64; have := hF.l64; omega) (by rw [e1, e2, e3]; exact ok_ma hF hL) (by rw [e1, e2, e3, e4]; exact hV)
  rwa [e1, e2, e3, e4] at this
end Go.Proofs.YtehnalbdfnmphaaDoor
