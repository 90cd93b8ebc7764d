/- Plain law: the texts of codes, and what is read from a text. -/
import Derived.Test.YtjmapbmdfbdomaaDoorTP1
import Derived.Lib.Join
import Derived.Shelf.Strings.FieldsAny
namespace Go.Proofs.YtjmapbmdfbdomaaDoor
open Go.Lib
set_option linter.unusedVariables false
set_option linter.unusedSimpArgs false

/-! ### Join -/
theorem join_same : ∀ ws : List (List UInt8), join ws [32] = joinS ws
  | [] => rfl
  | x :: r => by
    rw [join_cons]
    simp [joinTail, joinS]

/-! ### Fields -/
theorem go_word : ∀ (w cur l : List UInt8), (∀ c ∈ w, isSp c = false) → fieldsGo cur (w ++ l) = fieldsGo (cur ++ w) l
  | [], cur, l, _ => by simp
  | c :: w, cur, l, h => by
    rw [List.cons_append, fieldsGo, h c (by simp)]
    simp only [Bool.false_eq_true, if_false]
    rw [go_word w (cur ++ [c]) l (fun x hx => h x (by simp [hx])), List.append_assoc]; rfl
theorem go_end (w : List UInt8) (h : w ≠ []) : fieldsGo w [] = [w] := by
  cases w with
  | nil => exact absurd rfl h
  | cons c r => rfl
theorem go_sep (w r : List UInt8) (h : w ≠ []) : fieldsGo w (32 :: r) = w :: fieldsGo [] r := by
  cases w with
  | nil => exact absurd rfl h
  | cons c t => rfl
theorem fields_join : ∀ (ws : List (List UInt8)), (∀ w ∈ ws, w ≠ [] ∧ ∀ c ∈ w, isSp c = false) → fields (joinS ws) = ws
  | [], _ => rfl
  | [w], h => by
    obtain ⟨h1, h2⟩ := h w (by simp)
    have := go_word w [] [] h2
    rw [List.append_nil, List.nil_append] at this
    rw [joinS_one]
    unfold fields
    rw [this, go_end w h1]
  | w :: v :: r, h => by
    obtain ⟨h1, h2⟩ := h w (by simp)
    have ih := fields_join (v :: r) (fun x hx => h x (by simp at hx ⊢; right; exact hx))
    unfold fields at ih ⊢
    rw [joinS_cons, go_word w [] _ h2, List.nil_append, go_sep w _ h1, ih]
theorem dgt_sp {c : UInt8} (h : dgt c) : isSp c = false ∧ c.toNat < 128 := by
  unfold dgt at h
  refine ⟨?_, by omega⟩
  unfold isSp
  have hne : ∀ k : UInt8, k.toNat < 48 → (c == k) = false := fun k hk => by
    rw [beq_eq_false_iff_ne]
    intro e
    subst e; omega
  rw [hne 9 (by decide), hne 10 (by decide), hne 11 (by decide), hne 12 (by decide), hne 13 (by decide), hne 32 (by decide)]; rfl
theorem itoa_mem {x : Int} {c : UInt8} (h : c ∈ itoa x) : c = 45 ∨ dgt c := by
  unfold itoa at h
  split at h
  · rcases List.mem_cons.1 h with h | h
    · exact .inl h
    · exact .inr (dec_dgt _ _ h)
  · exact .inr (dec_dgt _ _ h)
theorem itoa_sp (x : Int) : itoa x ≠ [] ∧ ∀ c ∈ itoa x, isSp c = false := by
  refine ⟨?_, fun c hc => ?_⟩
  · unfold itoa
    split
    · simp
    · exact dec_ne _
  · rcases itoa_mem hc with rfl | h
    · rfl
    · exact (dgt_sp h).1
theorem listT_ascii (xs : List Int) : ∀ c ∈ listT xs, c.toNat < 128 := by
  unfold listT joinS
  intro c hc
  have := List.mem_of_mem_drop hc
  rw [List.mem_flatten] at this
  obtain ⟨l, hl, hc⟩ := this
  simp only [List.map_map, List.mem_map, Function.comp] at hl
  obtain ⟨x, hx, rfl⟩ := hl
  rcases List.mem_cons.1 hc with rfl | hc
  · decide
  · rcases itoa_mem hc with rfl | h
    · decide
    · exact (dgt_sp h).2
end Go.Proofs.YtjmapbmdfbdomaaDoor
