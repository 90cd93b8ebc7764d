/- Plain law: the texts of codes, and what is read from a text. -/
import Derived.Test.YtooafhbjbpaacaaDoorTP1
import Derived.Test.YtooafhbjbpaacaaDoorPlain
import Derived.Lib.Join
import Derived.Shelf.Strings.FieldsAny
namespace Go.Proofs.YtooafhbjbpaacaaDoor
open Go.Lib
set_option linter.unusedVariables false
set_option linter.unusedSimpArgs false

/-! ### Join -/
theorem join_same : ∀ ws : List (List UInt8), join ws [32] = joinS ws
  | [] => rfl
  | x :: r => by
    rw [join_cons]
    simp [joinTail, joinS]

/-! ### Fields -/
theorem go_word : ∀ (w cur l : List UInt8), (∀ c ∈ w, isSp c = false) → fieldsGo cur (w ++ l) = fieldsGo (cur ++ w) l
  | [], cur, l, _ => by simp
  | c :: w, cur, l, h => by
    rw [List.cons_append, fieldsGo, h c (by simp)]
    simp only [Bool.false_eq_true, if_false]
    rw [go_word w (cur ++ [c]) l (fun x hx => h x (by simp [hx])), List.append_assoc]; rfl
theorem go_end (w : List UInt8) (h : w ≠ []) : fieldsGo w [] = [w] := by
  cases w with
  | nil => exact absurd rfl h
  | cons c r => rfl
theorem go_sep (w r : List UInt8) (h : w ≠ []) : fieldsGo w (32 :: r) = w :: fieldsGo [] r := by
  cases w with
  | nil => exact absurd rfl h
  | cons c t => rfl
theorem fields_join : ∀ (ws : List (List UInt8)), (∀ w ∈ ws, w ≠ [] ∧ ∀ c ∈ w, isSp c = false) → fields (joinS ws) = ws
  | [], _ => rfl
  | [w], h => by
    obtain ⟨h1, h2⟩ := h w (by simp)
    have := go_word w [] [] h2
    rw [List.append_nil, List.nil_append] at this
    rw [joinS_one]
    unfold fields
    rw [this, go_end w h1]
  | w :: v :: r, h => by
    obtain ⟨h1, h2⟩ := h w (by simp)
    have ih := fields_join (v :: r) (fun x hx => h x (by simp at hx ⊢; right; exact hx))
    unfold fields at ih ⊢
    rw [joinS_cons, go_word w [] _ h2, List.nil_append, go_sep w _ h1, ih]
theorem dgt_sp {c : UInt8} (h : dgt c) : isSp c = false ∧ c.toNat < 128 := by
  unfold dgt at h
  refine ⟨?_, by omega⟩
  unfold isSp
  have hne : ∀ k : UInt8, k.toNat < 48 → (c == k) = false := fun k hk => by
    rw [beq_eq_false_iff_ne]
    intro e
    subst e; omega
  rw [hne 9 (by decide), hne 10 (by decide), hne 11 (by decide), hne 12 (by decide), hne 13 (by decide), hne 32 (by decide)]; rfl
theorem itoa_mem {x : Int} {c : UInt8} (h : c ∈ itoa x) : c = 45 ∨ dgt c := by
  unfold itoa at h
  split at h
  · rcases List.mem_cons.1 h with h | h
    · exact .inl h
    · exact .inr (dec_dgt _ _ h)
  · exact .inr (dec_dgt _ _ h)
theorem itoa_sp (x : Int) : itoa x ≠ [] ∧ ∀ c ∈ itoa x, isSp c = false := by
  refine ⟨?_, fun c hc => ?_⟩
  · unfold itoa
    split
    · simp
    · exact dec_ne _
  · rcases itoa_mem hc with rfl | h
    · rfl
    · exact (dgt_sp h).1
theorem listT_ascii (xs : List Int) : ∀ c ∈ listT xs, c.toNat < 128 := by
  unfold listT joinS
  intro c hc
  have := List.mem_of_mem_drop hc
  rw [List.mem_flatten] at this
  obtain ⟨l, hl, hc⟩ := this
  simp only [List.map_map, List.mem_map, Function.comp] at hl
  obtain ⟨x, hx, rfl⟩ := hl
  rcases List.mem_cons.1 hc with rfl | hc
  · decide
  · rcases itoa_mem hc with rfl | h
    · decide
    · exact (dgt_sp h).2
theorem fields_listT (xs : List Int) : fieldsD (listT xs) = xs.map itoa := by
  rw [fieldsD_ascii _ (listT_ascii xs)]
  exact fields_join _ (fun w hw => by
    obtain ⟨x, hx, rfl⟩ := List.mem_map.1 hw
    exact itoa_sp x)

/-! ### Numbers -/
def numL : List (List UInt8) → Option (List Int)
  | [] => some []
  | w :: r => match atoiAll w with
    | .ok v => (numL r).map (v :: ·)
    | _ => none
theorem numL_snoc {v : Int} {w : List UInt8} (hv : atoiAll w = .ok v) : ∀ {ws : List (List UInt8)} {out : List Int}, numL ws = some out → numL (ws ++ [w]) = some (out ++ [v])
  | [], out, h => by
    simp only [numL, Option.some.injEq] at h
    subst h
    simp [numL, hv]
  | u :: r, out, h => by
    simp only [numL, List.cons_append] at h ⊢
    split at h
    · rename_i x hx
      cases hr : numL r with
      | none => rw [hr] at h; cases h
      | some o =>
        rw [hr] at h
        simp only [Option.map_some, Option.some.injEq] at h
        subst h
        rw [numL_snoc hv hr]; rfl
    · cases h
theorem numL_fail {w : List UInt8} (hv : ∀ v, atoiAll w ≠ .ok v) : ∀ {ws : List (List UInt8)}, w ∈ ws → numL ws = none
  | [], h => by simp at h
  | u :: r, h => by
    simp only [numL]
    rcases List.mem_cons.1 h with rfl | h
    · cases ha : atoiAll w with
      | ok v => exact absurd ha (hv v)
      | _ => rfl
    · rw [numL_fail hv h]
      cases atoiAll u <;> rfl
theorem numL_len : ∀ {ws : List (List UInt8)} {out : List Int}, numL ws = some out → out.length = ws.length
  | [], out, h => by simp only [numL, Option.some.injEq] at h; subst h; rfl
  | u :: r, out, h => by
    simp only [numL] at h
    split at h
    · cases hr : numL r with
      | none => rw [hr] at h; cases h
      | some o => rw [hr] at h; simp only [Option.map_some, Option.some.injEq] at h; subst h; simp [numL_len hr]
    · cases h
theorem numL_in : ∀ {ws : List (List UInt8)} {out : List Int}, numL ws = some out → ∀ x ∈ out, In64 x
  | [], out, h => by simp only [numL, Option.some.injEq] at h; subst h; simp
  | u :: r, out, h => by
    simp only [numL] at h
    split at h
    · rename_i v hv
      cases hr : numL r with
      | none => rw [hr] at h; cases h
      | some o =>
        rw [hr] at h
        simp only [Option.map_some, Option.some.injEq] at h
        subst h
        intro x hx
        rcases List.mem_cons.1 hx with rfl | hx
        · exact atoiAll_bounds hv
        · exact numL_in hr x hx
    · cases h
def In62 (x : Int) : Prop := -4611686018427387904 ≤ x ∧ x ≤ 4611686018427387904
theorem numL_itoa : ∀ {xs : List Int}, (∀ x ∈ xs, In62 x) → numL (xs.map itoa) = some xs
  | [], _ => rfl
  | x :: r, h => by
    have hx := h x (by simp)
    simp only [List.map_cons, numL, atoi_itoa_all hx.1 hx.2, numL_itoa (xs := r) (fun y hy => h y (by simp [hy])), Option.map_some]

/-- What Parse returns. -/
noncomputable def parseL (s : List UInt8) : Option (List Int) := match numL (fieldsD s) with
  | some L => open Classical in if Good L ∧ listT L = s then some L else none
  | none => none
theorem parse_text {xs : List Int} (h : ∀ x ∈ xs, In62 x) : parseL (listT xs) = open Classical in if Good xs then some xs else none := by
  unfold parseL
  rw [fields_listT, numL_itoa h]
  by_cases hg : Good xs
  · simp [hg]
  · simp [hg]

/-! ### The reference's reading -/
def rdL : List UInt8 → Int → Int → Nat → Option (List Int)
  | [], n, sg, dg => if dg = 0 then none else some [sg * n]
  | c :: r, n, sg, dg => if c.toNat = 32 then (if dg = 0 then none else (rdL r 0 1 0).map (sg * n :: ·))
    else if c.toNat = 45 ∧ dg = 0 ∧ sg = 1 then rdL r n (-1) dg
    else if c.toNat < 48 ∨ 57 < c.toNat ∨ 3 < dg then none
    else rdL r (10 * n + ((c.toNat : Int) - 48)) sg (dg + 1)
theorem rdL_nil (n sg : Int) (dg : Nat) : rdL [] n sg dg = if dg = 0 then none else some [sg * n] := rfl
theorem rdL_cons (c : UInt8) (r : List UInt8) (n sg : Int) (dg : Nat) : rdL (c :: r) n sg dg = if c.toNat = 32 then (if dg = 0 then none else (rdL r 0 1 0).map (sg * n :: ·))
    else if c.toNat = 45 ∧ dg = 0 ∧ sg = 1 then rdL r n (-1) dg
    else if c.toNat < 48 ∨ 57 < c.toNat ∨ 3 < dg then none
    else rdL r (10 * n + ((c.toNat : Int) - 48)) sg (dg + 1) := rfl
theorem rd_dig {k : Nat} (h : k < 10) (r : List UInt8) (n sg : Int) (dg : Nat) (hd : dg ≤ 3) : rdL (UInt8.ofNat (48 + k) :: r) n sg dg = rdL r (10 * n + (k : Int)) sg (dg + 1) := by
  obtain ⟨h1, h2⟩ := dgt_of h
  rw [rdL_cons, h2, if_neg (by omega), if_neg (by omega), if_neg (by omega)]
  congr 2
  omega
theorem rd_dec {u : Nat} (hu : u < 1000) (sg : Int) : ∃ d, 1 ≤ d ∧ ∀ T, rdL (decDigits u ++ T) 0 sg 0 = rdL T u sg d := by
  by_cases h1 : u < 10
  · refine ⟨1, Nat.le_refl _, fun T => ?_⟩
    rw [decDigits_one h1, List.singleton_append, rd_dig h1 _ _ _ _ (by omega)]
    congr 1; omega
  by_cases h2 : u < 100
  · refine ⟨2, by omega, fun T => ?_⟩
    rw [decDigits_two h1 h2, List.cons_append, List.singleton_append, rd_dig (by omega) _ _ _ _ (by omega), rd_dig (by omega) _ _ _ _ (by omega)]
    congr 1; omega
  · refine ⟨3, by omega, fun T => ?_⟩
    rw [decDigits, dif_neg h1, decDigits_two (by omega) (by omega)]
    simp only [List.cons_append, List.nil_append]
    rw [rd_dig (by omega) _ _ _ _ (by omega), rd_dig (by omega) _ _ _ _ (by omega), rd_dig (by omega) _ _ _ _ (by omega)]
    congr 1; omega
theorem rd_num {x : Int} (h : x.natAbs < 1000) : ∃ (n sg : Int) (d : Nat), sg * n = x ∧ 1 ≤ d ∧ ∀ T, rdL (itoa x ++ T) 0 1 0 = rdL T n sg d := by
  by_cases hx : x < 0
  · obtain ⟨d, h1, h2⟩ := rd_dec h (-1)
    refine ⟨x.natAbs, -1, d, by omega, h1, fun T => ?_⟩
    have e : itoa x = 45 :: decDigits x.natAbs := by unfold itoa; rw [if_pos hx]
    rw [e, List.cons_append, rdL_cons, if_neg (by decide), if_pos ⟨rfl, rfl, rfl⟩, h2]
  · obtain ⟨d, h1, h2⟩ := rd_dec (u := x.toNat) (by omega) 1
    refine ⟨x.toNat, 1, d, by omega, h1, fun T => ?_⟩
    rw [itoa_nat (by omega), h2]
theorem rd_list : ∀ (xs : List Int), xs ≠ [] → (∀ x ∈ xs, x.natAbs < 1000) → rdL (listT xs) 0 1 0 = some xs
  | [], h, _ => absurd rfl h
  | [x], _, h => by
    obtain ⟨n, sg, d, e1, e2, e3⟩ := rd_num (h x (by simp))
    have := e3 []
    rw [List.append_nil] at this
    rw [listT_first, this, rdL_nil, if_neg (by omega), e1]
  | x :: y :: r, _, h => by
    obtain ⟨n, sg, d, e1, e2, e3⟩ := rd_num (h x (by simp))
    have ih := rd_list (y :: r) (by simp) (fun z hz => h z (by simp at hz ⊢; right; exact hz))
    rw [listT_cons, e3, rdL_cons, if_pos (by decide), if_neg (by omega), ih, e1]
    rfl
noncomputable def readL (s : List UInt8) : Option (List Int) := match rdL s 0 1 0 with
  | some L => open Classical in if Good L ∧ listT L = s then some L else none
  | none => none
theorem good_small {xs : List Int} (h : Good xs) : xs ≠ [] ∧ ∀ x ∈ xs, x.natAbs < 1000 ∧ In62 x := by
  obtain ⟨h1, h2, h3, -⟩ := h
  refine ⟨fun e => by subst e; simp at h1, fun x hx => ?_⟩
  have := h3 x hx
  unfold Fit at this
  unfold In62
  omega
theorem same_read (s : List UInt8) : parseL s = readL s := by
  have key : ∀ L, Good L → listT L = s → numL (fieldsD s) = some L ∧ rdL s 0 1 0 = some L := by
    intro L hg hl
    obtain ⟨h1, h2⟩ := good_small hg
    subst hl
    exact ⟨by rw [fields_listT, numL_itoa (fun x hx => (h2 x hx).2)], rd_list L h1 (fun x hx => (h2 x hx).1)⟩
  unfold parseL readL
  cases hn : numL (fieldsD s) with
  | some L =>
    by_cases hg : Good L ∧ listT L = s
    · rw [(key L hg.1 hg.2).2]
    · simp only [if_neg hg]
      cases hr : rdL s 0 1 0 with
      | none => rfl
      | some L' =>
        by_cases hg' : Good L' ∧ listT L' = s
        · have := (key L' hg'.1 hg'.2).1
          rw [hn] at this
          simp only [Option.some.injEq] at this
          subst this
          exact absurd hg' hg
        · simp only [if_neg hg']
  | none =>
    cases hr : rdL s 0 1 0 with
    | none => rfl
    | some L' =>
      by_cases hg' : Good L' ∧ listT L' = s
      · have := (key L' hg'.1 hg'.2).1
        rw [hn] at this; cases this
      · simp only [if_neg hg']
end Go.Proofs.YtooafhbjbpaacaaDoor
