/- Planar codes, plainly: words, numbers, lines. -/
import Derived.Lib.IndexMore
import Derived.Lib.CutLaws
namespace Go.Proofs.YtehnalbdfnmphaaDoor
open Go
set_option linter.unusedVariables false

/-- A text cut at every c. -/
def spl (c : UInt8) : List UInt8 → List (List UInt8)
  | [] => [[]]
  | x :: r => if x = c then [] :: spl c r else (x :: (spl c r).headD []) :: (spl c r).tail
theorem spl_no {c : UInt8} : ∀ {w : List UInt8}, c ∉ w → spl c w = [w]
  | [], _ => rfl
  | x :: r, h => by
    simp only [List.mem_cons, not_or] at h
    simp only [spl]
    rw [if_neg (fun e => h.1 e.symm), spl_no h.2]
    rfl
theorem spl_app {c : UInt8} {r : List UInt8} : ∀ {w : List UInt8}, c ∉ w → spl c (w ++ c :: r) = w :: spl c r
  | [], _ => by simp [spl]
  | x :: w, h => by
    simp only [List.mem_cons, not_or] at h
    simp only [spl, List.cons_append]
    rw [if_neg (fun e => h.1 e.symm), spl_app h.2]
    rfl
theorem spl_ne (c : UInt8) (l : List UInt8) : spl c l ≠ [] := by
  cases l with
  | nil => simp [spl]
  | cons x r =>
    simp only [spl]
    split <;> simp
theorem occ_one (s : List UInt8) (c : UInt8) (j : Nat) : Lib.occAt s [c] j = true ↔ s[j]? = some c := by
  unfold Lib.occAt
  rw [List.isPrefixOf_iff_prefix]
  constructor
  · rintro ⟨t, ht⟩
    have := congrArg (fun l : List UInt8 => l[0]?) ht
    simp only [List.getElem?_drop, Nat.add_zero] at this
    rw [← this]; rfl
  · intro h
    obtain ⟨h1, h2⟩ := List.getElem?_eq_some_iff.1 h
    exact ⟨s.drop (j + 1), by rw [List.drop_eq_getElem_cons h1, h2]; rfl⟩
/-- The first c of a text: what stands ahead, what behind; or it has none. -/
theorem cut_spl (c : UInt8) (s : List UInt8) : (c ∉ s ∧ Lib.cut s [c] = (s, [], false) ∧ spl c s = [s]) ∨ ∃ w r, s = w ++ c :: r ∧ c ∉ w ∧ Lib.cut s [c] = (w, r, true) ∧ spl c s = w :: spl c r := by
  rcases Lib.index_spec s [c] with ⟨h1, h2⟩ | ⟨i, h1, h2, h3, h4⟩
  · have hc : c ∉ s := fun hm => by
      obtain ⟨j, hj⟩ := List.mem_iff_getElem?.1 hm
      have := (List.getElem?_eq_some_iff.1 hj).1
      have h3 := h2 j (by omega)
      rw [(occ_one s c j).2 hj] at h3
      cases h3
    refine .inl ⟨hc, ?_, spl_no hc⟩
    unfold Lib.cut
    rw [h1, if_neg (by omega)]
  · have hi := (occ_one s c i).1 h3
    have hl := (List.getElem?_eq_some_iff.1 hi).1
    have hc : c ∉ s.take i := fun hm => by
      obtain ⟨j, hj⟩ := List.mem_iff_getElem?.1 hm
      rw [List.getElem?_take] at hj
      split at hj
      · rename_i hji
        have h5 := h4 j hji
        rw [(occ_one s c j).2 hj] at h5
        cases h5
      · cases hj
    have hs : s = s.take i ++ c :: s.drop (i + 1) := by
      have h6 := List.take_append_drop i s
      rw [List.drop_eq_getElem_cons hl, (List.getElem?_eq_some_iff.1 hi).2] at h6
      exact h6.symm
    refine .inr ⟨s.take i, s.drop (i + 1), hs, hc, ?_, ?_⟩
    · unfold Lib.cut
      rw [h1, if_pos (by omega), Int.toNat_natCast]
      rfl
    · conv => lhs; rw [hs]
      exact spl_app hc

/-! ### Numbers -/
/-- The digits read, with what was read before. -/
def rdN : List UInt8 → Int → Option Int
  | [], v => some v
  | c :: r, v => if c.toNat < 48 ∨ 57 < c.toNat then none else rdN r (10 * v + ((c.toNat : Int) - 48))
def numA (s : List UInt8) (least most : Int) : Option Int :=
  if s = [] ∨ (1 < s.length ∧ s[0]? = some 48) ∨ 9 < s.length then none else
    match rdN s 0 with
    | none => none
    | some v => if v < least ∨ most < v then none else some v
def numB (s : List UInt8) (digits : Nat) : Int :=
  if s = [] ∨ digits < s.length ∨ (s[0]? = some 48 ∧ 1 < s.length) then -1 else (rdN s 0).getD (-1)
theorem rdN_le : ∀ (s : List UInt8) (v x : Int), 0 ≤ v → rdN s v = some x → v * 10 ^ s.length ≤ x ∧ x + 1 ≤ (v + 1) * 10 ^ s.length
  | [], v, x, h0, h => by
    simp only [rdN, Option.some.injEq] at h
    subst h
    simp
  | c :: r, v, x, h0, h => by
    simp only [rdN] at h
    split at h
    · cases h
    · rename_i hc
      obtain ⟨h1, h2⟩ := rdN_le r _ x (by omega) h
      have h3 : (0 : Int) ≤ 10 ^ r.length := Int.le_of_lt (Int.pow_pos (by decide))
      simp only [List.length_cons, Int.pow_succ]
      constructor
      · refine Int.le_trans ?_ h1
        rw [show v * (10 ^ r.length * 10) = (10 * v) * 10 ^ r.length by rw [Int.mul_comm (10 ^ r.length) 10, ← Int.mul_assoc, Int.mul_comm v 10]]
        exact Int.mul_le_mul_of_nonneg_right (by omega) h3
      · refine Int.le_trans h2 ?_
        rw [show (v + 1) * (10 ^ r.length * 10) = (10 * (v + 1)) * 10 ^ r.length by rw [Int.mul_comm (10 ^ r.length) 10, ← Int.mul_assoc, Int.mul_comm (v + 1) 10]]
        exact Int.mul_le_mul_of_nonneg_right (by omega) h3
theorem rdN_nn {s : List UInt8} {v x : Int} (h0 : 0 ≤ v) (h : rdN s v = some x) : 0 ≤ x := by
  have h1 := (rdN_le s v x h0 h).1
  have h3 : (0 : Int) ≤ 10 ^ s.length := Int.le_of_lt (Int.pow_pos (by decide))
  exact Int.le_trans (Int.mul_nonneg h0 h3) h1
theorem rdN_first {s : List UInt8} {x : Int} (h : rdN s 0 = some x) (hl : 1 < s.length) (h0 : s[0]? ≠ some 48) : 10 ^ (s.length - 1) ≤ x := by
  cases s with
  | nil => simp at hl
  | cons c r =>
    simp only [rdN] at h
    split at h
    · cases h
    · rename_i hc
      have h3 : (0 : Int) ≤ 10 ^ r.length := Int.le_of_lt (Int.pow_pos (by decide))
      have hc48 : c.toNat ≠ 48 := fun e => h0 (by
        simp only [List.getElem?_cons_zero, Option.some.injEq]
        exact UInt8.toNat_inj.1 e)
      have h1 := (rdN_le r _ x (by omega) h).1
      simp only [List.length_cons, Nat.add_sub_cancel]
      refine Int.le_trans ?_ h1
      have : (1 : Int) * 10 ^ r.length ≤ (10 * 0 + ((c.toNat : Int) - 48)) * 10 ^ r.length := Int.mul_le_mul_of_nonneg_right (by omega) h3
      omega
theorem p10 {a b : Nat} (h : a ≤ b) : (10 : Int) ^ a ≤ 10 ^ b := by exact_mod_cast Nat.pow_le_pow_right (by decide) h
theorem num_same {s : List UInt8} {d : Nat} (hd : 1 ≤ d ∧ d ≤ 9) {least v : Int} (h0 : 0 ≤ least) : numA s least (10 ^ d - 1) = some v ↔ numB s d = v ∧ least ≤ v := by
  unfold numA numB
  by_cases h1 : s = []
  · rw [if_pos (.inl h1), if_pos (.inl h1)]
    constructor
    · intro h; cases h
    · rintro ⟨h, h2⟩; omega
  by_cases h2 : 1 < s.length ∧ s[0]? = some 48
  · rw [if_pos (.inr (.inl h2)), if_pos (.inr (.inr ⟨h2.2, h2.1⟩))]
    constructor
    · intro h; cases h
    · rintro ⟨h, h2⟩; omega
  by_cases h3 : d < s.length
  · rw [if_pos (.inr (.inl h3) : s = [] ∨ d < s.length ∨ _)]
    constructor
    · intro h
      split at h
      · cases h
      · split at h
        · cases h
        · rename_i x hx
          have hf := rdN_first hx (by omega) (fun e => h2 ⟨by omega, e⟩)
          have : (10 : Int) ^ d ≤ 10 ^ (s.length - 1) := p10 (by omega)
          rw [if_pos (.inr (by omega))] at h
          cases h
    · rintro ⟨h, h2⟩; omega
  rw [if_neg (by intro h; rcases h with h | h | h; exact h1 h; exact h2 h; omega), if_neg (by intro h; rcases h with h | h | h; exact h1 h; exact h3 h; exact h2 ⟨h.2, h.1⟩)]
  cases hx : rdN s 0 with
  | none =>
    constructor
    · intro h; cases h
    · rintro ⟨h, h2⟩; simp at h; omega
  | some x =>
    have hu := (rdN_le s 0 x (Int.le_refl _) hx).2
    have : (10 : Int) ^ s.length ≤ 10 ^ d := p10 (by omega)
    simp only [Option.getD_some]
    constructor
    · intro h
      split at h
      · cases h
      · cases h; exact ⟨rfl, by omega⟩
    · rintro ⟨rfl, h⟩
      rw [if_neg (by omega)]

/-! ### Lines -/
/-- The words of a crossing's line: its sign and labels. -/
def crsL (ws : List (List UInt8)) : Option (Int × List Int) :=
  match ws with
  | [w, a, b, c, d] =>
    if w = [43] ∨ w = [45] then
      match numA a 1 9999, numA b 1 9999, numA c 1 9999, numA d 1 9999 with
      | some x, some y, some z, some t => some (if w = [43] then 1 else -1, [x, y, z, t])
      | _, _, _, _ => none
    else none
  | _ => none
def crs (s : List UInt8) : Option (Int × List Int) := crsL (spl 32 s)
def loopsW : List UInt8 := [108, 111, 111, 112, 115, 32]
def isLoops (s : List UInt8) : Bool := decide (s.take 6 = loopsW)
/-- The lines, as the program reads them. -/
def linL : List (List UInt8) → List (Int × List Int) → Option (List (Int × List Int) × Int)
  | [], _ => none
  | [_], _ => none
  | x :: y :: r, acc =>
    if isLoops x = true then
      match numA (x.drop 6) 0 999 with
      | some v => if y :: r = [[]] then some (acc, v) else none
      | none => none
    else
      match crs x with
      | some p => linL (y :: r) (acc ++ [p])
      | none => none
/-- All lines are crossings. -/
def crsAll : List (List UInt8) → Option (List (Int × List Int))
  | [] => some []
  | x :: r => match crs x, crsAll r with
    | some p, some ps => some (p :: ps)
    | _, _ => none
/-- The lines, as the reference reads them. -/
def linR (ls : List (List UInt8)) : Option (List (Int × List Int) × Int) :=
  if ls.length < 2 ∨ ls.getLast? ≠ some [] then none else
    let last := (ls[ls.length - 2]?).getD []
    if last.length < 7 ∨ last.take 6 ≠ loopsW ∨ numB (last.drop 6) 3 < 0 then none else
      match crsAll (ls.take (ls.length - 2)) with
      | some ps => some (ps, numB (last.drop 6) 3)
      | none => none
theorem loops_crs {x : List UInt8} (h : isLoops x = true) : crs x = none := by
  have h1 : x.take 6 = loopsW := of_decide_eq_true h
  have h2 : x = [108, 111, 111, 112, 115] ++ 32 :: x.drop 6 := by
    have := List.take_append_drop 6 x
    rw [h1] at this
    exact this.symm
  unfold crs
  rw [h2, spl_app (by decide)]
  generalize spl 32 _ = ws
  unfold crsL
  split
  · rename_i w a b c d e
    cases e
    rw [if_neg (by decide)]
  · rfl
theorem linR_cons (x : List UInt8) {ls : List (List UInt8)} (h : 2 ≤ ls.length) : linR (x :: ls) = match crs x, linR ls with
    | some p, some q => some (p :: q.1, q.2)
    | _, _ => none := by
  have e1 : (x :: ls).getLast? = ls.getLast? := by
    cases ls with
    | nil => simp at h
    | cons y r => rfl
  have e2 : (x :: ls)[(x :: ls).length - 2]? = ls[ls.length - 2]? := by
    rw [List.length_cons, show ls.length + 1 - 2 = (ls.length - 2) + 1 by omega, List.getElem?_cons_succ]
  have e3 : (x :: ls).take ((x :: ls).length - 2) = x :: ls.take (ls.length - 2) := by
    rw [List.length_cons, show ls.length + 1 - 2 = (ls.length - 2) + 1 by omega, List.take_succ_cons]
  unfold linR
  rw [e1, e2, e3]
  by_cases h1 : ls.getLast? ≠ some []
  · rw [if_pos (.inr h1), if_pos (.inr h1)]
    split <;> simp_all
  · have hA : ¬ ((x :: ls).length < 2 ∨ ls.getLast? ≠ some []) := by simp only [List.length_cons]; intro hh; rcases hh with hh | hh; omega; exact h1 hh
    have hB : ¬ (ls.length < 2 ∨ ls.getLast? ≠ some []) := by intro hh; rcases hh with hh | hh; omega; exact h1 hh
    rw [if_neg hA, if_neg hB]
    generalize (ls[ls.length - 2]?).getD [] = last
    by_cases h2 : last.length < 7 ∨ last.take 6 ≠ loopsW ∨ numB (last.drop 6) 3 < 0
    · simp only [h2, if_true]
      cases crs x <;> rfl
    · simp only [h2, if_false, crsAll]
      cases crs x <;> cases crsAll (ls.take (ls.length - 2)) <;> rfl
theorem lin_same : ∀ (ls : List (List UInt8)) (acc : List (Int × List Int)), linL ls acc = (linR ls).map fun p => (acc ++ p.1, p.2)
  | [], acc => by simp [linL, linR]
  | [x], acc => by simp [linL, linR]
  | [x, y], acc => by
    have hn : ∀ v : Int, numA (x.drop 6) 0 999 = some v ↔ numB (x.drop 6) 3 = v ∧ 0 ≤ v := fun v => num_same (d := 3) (by omega) (Int.le_refl _)
    have e3 : linR [x, y] = if y = [] then if x.length < 7 ∨ x.take 6 ≠ loopsW ∨ numB (x.drop 6) 3 < 0 then none else some ([], numB (x.drop 6) 3) else none := by
      unfold linR
      by_cases hy : y = []
      · subst hy
        rw [if_neg (by simp), if_pos rfl]
        rfl
      · rw [if_pos (.inr (by simpa using hy)), if_neg hy]
    rw [e3]
    simp only [linL]
    by_cases hy : y = []
    · subst hy
      rw [if_pos rfl]
      by_cases hl : isLoops x = true
      · have h6 : x.take 6 = loopsW := of_decide_eq_true hl
        rw [if_pos hl]
        cases hv : numA (x.drop 6) 0 999 with
        | none =>
          have : numB (x.drop 6) 3 < 0 := by
            rcases Int.lt_or_le (numB (x.drop 6) 3) 0 with h | h
            · exact h
            · rw [(hn _).2 ⟨rfl, h⟩] at hv; cases hv
          rw [if_pos (.inr (.inr this))]
          rfl
        | some v =>
          obtain ⟨h1, h2⟩ := (hn v).1 hv
          have h7 : 7 ≤ x.length := by
            rcases Nat.lt_or_ge x.length 7 with h | h
            · have : x.drop 6 = [] := List.drop_eq_nil_of_le (by omega)
              rw [this] at hv; cases hv
            · exact h
          rw [if_neg (by rw [h1]; intro hh; rcases hh with hh | hh | hh; omega; exact hh h6; omega), h1]
          simp
      · rw [if_neg hl, if_pos (.inr (.inl (fun e => hl (decide_eq_true e))))]
        cases crs x <;> rfl
    · rw [if_neg hy]
      by_cases hl : isLoops x = true
      · rw [if_pos hl]
        cases hv : numA (x.drop 6) 0 999 with
        | none => rfl
        | some v => simp [hy]
      · rw [if_neg hl]
        cases crs x <;> rfl
  | x :: y :: z :: r, acc => by
    rw [linR_cons x (by simp)]
    conv => lhs; unfold linL
    by_cases hl : isLoops x = true
    · rw [if_pos hl, loops_crs hl]
      cases numA (x.drop 6) 0 999 <;> simp
    · rw [if_neg hl]
      cases hx : crs x with
      | none => rfl
      | some p =>
        simp only []
        rw [lin_same (y :: z :: r) (acc ++ [p])]
        cases linR (y :: z :: r) with
        | none => rfl
        | some q => simp
end Go.Proofs.YtehnalbdfnmphaaDoor
