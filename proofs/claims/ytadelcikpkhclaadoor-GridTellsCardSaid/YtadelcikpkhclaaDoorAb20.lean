/- Slices of integers that came in; a block of one's own at the heap's end. -/
import Derived.Test.YtadelcikpkhclaaDoorAb19
namespace Go.Ab
set_option linter.unusedVariables false

theorem IsSl.len {h : Heap} {s : SV} {e : ESz} {n : Nat} {vs : List SV} (hs : IsSl h s e n vs) : lenS false s = some (n : Int) := by
  rcases hs with ⟨rfl, rfl, rfl⟩ | ⟨id, off, cap, b, rfl, _⟩ <;> simp [lenS]

theorem IsSl.mono {h h' : Heap} {s : SV} {e : ESz} {n : Nat} {vs : List SV} (hs : IsSl h s e n vs) (hh : ∀ (i : Nat) (b : Blk), h[i]? = some b → h'[i]? = some b) : IsSl h' s e n vs := by
  rcases hs with hs | ⟨id, off, cap, b, h1, h2, h3⟩
  · exact .inl hs
  · exact .inr ⟨id, off, cap, b, h1, hh _ _ h2, h3⟩

theorem IsInts.at {h : Heap} {s : SV} {xs : List Int} (hs : IsInts h s xs) {i : Nat} {x : Int} (hi : xs[i]? = some x) :
    ∃ id off cap, s = .slc id off xs.length cap ∧ readN h id (off + i * 1) 1 = some [.int .i64 x] := by
  have hl := (List.getElem?_eq_some_iff.1 hi).1
  rcases hs with ⟨rfl, h1, h2⟩ | ⟨id, off, cap, b, h1, h2, h3, h4, h5⟩
  · omega
  · obtain ⟨cs, rw', rfl, hc⟩ := h5 (by omega)
    refine ⟨id, off, cap, h1, ?_⟩
    unfold readN
    rw [h2]
    simp only
    unfold cut at hc ⊢
    simp only [ESz.one_n] at hc
    split at hc
    · rename_i hle
      simp only [Option.some.injEq] at hc
      rw [if_pos (by omega)]
      have h6 : cs[off + i]? = some (.int .i64 x) := by
        have h7 : ((cs.drop off).take (xs.length * 1))[i]? = some (.int .i64 x) := by rw [hc]; simp [hi]
        rw [List.getElem?_take_of_lt (by omega), List.getElem?_drop] at h7
        exact h7
      have h8 : cs.drop (off + i * 1) = .int .i64 x :: cs.drop (off + i + 1) := by
        rw [Nat.mul_one]
        obtain ⟨h9, h10⟩ := List.getElem?_eq_some_iff.1 h6
        rw [List.drop_eq_getElem_cons h9, h10]
      rw [h8]; rfl
    · simp at hc

theorem rd_last {h : Heap} {cs : List SV} {rw' : Bool} {e : ESz} {k : Nat} {x : SV} (hx : cs[k]? = some x) : readN (h ++ [.cells cs rw' e]) h.length k 1 = some [x] := by
  obtain ⟨h9, h10⟩ := List.getElem?_eq_some_iff.1 hx
  unfold readN cut
  simp only [List.getElem?_append_right (Nat.le_refl _), Nat.sub_self, List.getElem?_cons_zero]
  rw [if_pos (by omega), List.drop_eq_getElem_cons h9, h10]; rfl

theorem wr_last {h : Heap} {cs : List SV} {e : ESz} {k : Nat} {x : SV} (hk : k < cs.length) : writeN (h ++ [.cells cs true e]) h.length k [x] = some (h ++ [.cells (cs.set k x) true e]) := by
  unfold writeN splice
  simp only [List.getElem?_append_right (Nat.le_refl _), Nat.sub_self, List.getElem?_cons_zero, List.length_singleton]
  rw [if_pos (by omega)]
  congr 1
  rw [List.set_append_right _ _ (Nat.le_refl _), Nat.sub_self]
  simp only [List.set_cons_zero]
  rw [List.set_eq_take_append_cons_drop, if_pos hk]
  simp

theorem rep1_get {z : SV} : ∀ {n k : Nat}, k < n → (rep [z] n)[k]? = some z
  | n + 1, 0, _ => rfl
  | n + 1, k + 1, h => by simp [rep]; exact rep1_get (by omega)

theorem mono_app {h t : Heap} (i : Nat) (b : Blk) (hb : h[i]? = some b) : (h ++ t)[i]? = some b := by
  rw [List.getElem?_append_left (List.getElem?_eq_some_iff.1 hb).1, hb]

end Go.Ab
