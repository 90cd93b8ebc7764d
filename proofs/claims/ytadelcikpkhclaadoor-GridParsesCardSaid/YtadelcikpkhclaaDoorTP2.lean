/- Plain law: the text of a grid diagram is read as that grid diagram, by both. -/
import Derived.Test.YtadelcikpkhclaaDoorT6
namespace Go.Proofs.YtadelcikpkhclaaDoor
open Go.Lib
set_option linter.unusedVariables false

/-! ### Split -/
theorem index_one : ∀ (w r : List UInt8), (32 : UInt8) ∉ w → index (w ++ 32 :: r) [32] = w.length
  | [], r, _ => by simp [index, List.isPrefixOf]
  | b :: w, r, h => by
    have hb : (32 : UInt8) ≠ b := fun e => h (by simp [e])
    have ih := index_one w r (fun e => h (by simp [e]))
    simp only [List.cons_append]
    unfold index
    rw [ih]
    have h1 : ([32] : List UInt8).isPrefixOf (b :: (w ++ 32 :: r)) = false := by simp [List.isPrefixOf, hb]
    have h2 : ((w.length : Int) == -1) = false := by rw [beq_eq_false_iff_ne]; omega
    simp [h1, h2]
theorem index_no : ∀ (w : List UInt8), (32 : UInt8) ∉ w → index w [32] = -1
  | [], _ => rfl
  | b :: w, h => by
    have hb : (32 : UInt8) ≠ b := fun e => h (by simp [e])
    have ih := index_no w (fun e => h (by simp [e]))
    unfold index
    rw [ih]
    have h1 : ([32] : List UInt8).isPrefixOf (b :: w) = false := by simp [List.isPrefixOf, hb]
    simp [h1]
theorem split_one (w : List UInt8) (h : (32 : UInt8) ∉ w) : split w [32] = [w] := by
  unfold split
  rw [count_miss (index_no w h)]; rfl
theorem split_cons (w r : List UInt8) (h : (32 : UInt8) ∉ w) : split (w ++ 32 :: r) [32] = w :: split r [32] := by
  have hi := index_one w r h
  unfold split
  rw [count_hit (by simp) hi]
  have e : (w ++ 32 :: r).drop (w.length + 1) = r := by
    rw [List.drop_append]; simp
  have e1 : (w ++ 32 :: r).drop (w.length + ([32] : List UInt8).length) = r := e
  rw [e1, Nat.add_comm 1]
  show (if index (w ++ 32 :: r) [32] == -1 then _ else _) = _
  have h2 : ((w.length : Int) == -1) = false := by rw [beq_eq_false_iff_ne]; omega
  rw [hi, h2]
  simp only [Bool.false_eq_true, if_false, Int.toNat_natCast, Nat.add_zero, e1]
  rw [List.take_left]
theorem split_join : ∀ (ws : List (List UInt8)), ws ≠ [] → (∀ w ∈ ws, (32 : UInt8) ∉ w) → split (joinS ws) [32] = ws
  | [], h, _ => absurd rfl h
  | [w], _, h => by rw [joinS_one]; exact split_one w (h w (by simp))
  | w :: v :: r, _, h => by
    rw [joinS_cons, split_cons w _ (h w (by simp)), split_join (v :: r) (by simp) (fun x hx => h x (by simp at hx ⊢; right; exact hx))]

theorem dgt_ne {c : UInt8} (h : dgt c) : c ≠ 32 ∧ c ≠ 47 := by
  unfold dgt at h
  exact ⟨fun e => by subst e; exact absurd h.1 (by decide), fun e => by subst e; exact absurd h.1 (by decide)⟩
theorem numL_itoa : ∀ {xs : List Int}, (∀ x ∈ xs, 0 ≤ x ∧ x ≤ 9223372036854775807) → numL (xs.map itoa) = some xs
  | [], _ => rfl
  | x :: r, h => by
    have hx := h x (by simp)
    simp only [List.map_cons, numL, atoi_itoa hx.1 hx.2, numL_itoa (xs := r) (fun y hy => h y (by simp [hy])), Option.map_some]
theorem numT_list {xs : List Int} (h0 : xs ≠ []) (h : ∀ x ∈ xs, 0 ≤ x ∧ x ≤ 9223372036854775807) : numT (listT xs) = xs := by
  unfold numT listT
  rw [split_join _ (by simpa using h0) (fun w hw => ?_), numL_itoa h]
  · rfl
  · obtain ⟨x, hx, rfl⟩ := List.mem_map.1 hw
    exact fun e => (dgt_ne (itoa_dgt (h x hx).1 _ e)).1 rfl

/-! ### Cut -/
/-- A list without 47: " / " first stands behind it. -/
theorem index_mid (w r : List UInt8) (h : (47 : UInt8) ∉ w) : index (w ++ [32, 47, 32] ++ r) [32, 47, 32] = w.length := by
  refine index_first (by simp) (by simp [occAt, List.isPrefixOf]) fun j hj => ?_
  rw [Bool.eq_false_iff]
  intro hc
  unfold occAt at hc
  rw [List.isPrefixOf_iff_prefix] at hc
  obtain ⟨t, ht⟩ := hc
  have h1 := congrArg (fun l : List UInt8 => l[1]?) ht
  simp only [List.getElem?_drop, List.append_assoc] at h1
  by_cases hj1 : j + 1 < w.length
  · rw [List.getElem?_append_left hj1] at h1
    exact h (List.mem_of_getElem? (by rw [← h1]; rfl))
  · have : j + 1 = w.length := by omega
    rw [this, List.getElem?_append_right (Nat.le_refl _)] at h1
    simp at h1
theorem cut_mid (w r : List UInt8) (h : (47 : UInt8) ∉ w) : cut (w ++ [32, 47, 32] ++ r) [32, 47, 32] = (w, r, true) := by
  unfold cut
  rw [index_mid w r h, if_pos (by omega)]
  simp only [Int.toNat_natCast]
  have e1 : (w ++ [32, 47, 32] ++ r).take w.length = w := by rw [List.append_assoc, List.take_left]
  have e2 : (w ++ [32, 47, 32] ++ r).drop (w.length + ([32, 47, 32] : List UInt8).length) = r := by
    rw [← List.length_append, List.drop_left]
  rw [e1, e2]
theorem listT_mem {xs : List Int} (h : ∀ x ∈ xs, 0 ≤ x) : (47 : UInt8) ∉ listT xs := by
  unfold listT joinS
  intro hm
  have := List.mem_of_mem_drop hm
  rw [List.mem_flatten] at this
  obtain ⟨l, hl, hc⟩ := this
  simp only [List.map_map, List.mem_map, Function.comp] at hl
  obtain ⟨x, hx, rfl⟩ := hl
  rcases List.mem_cons.1 hc with hc | hc
  · exact absurd hc (by decide)
  · exact (dgt_ne (itoa_dgt (h x hx) _ hc)).2 rfl
theorem VG.ne {g : Gr} (h : VG g.1 g.2) : g.1 ≠ [] ∧ g.2 ≠ [] := by
  obtain ⟨h1, h2, h3, -⟩ := h
  exact ⟨fun e => by rw [e] at h1; simp at h1, fun e => by rw [e] at h3; simp at h3; omega⟩
theorem cand_fmt {g : Gr} (h : VG g.1 g.2) : candS (fmtG g) = g := by
  obtain ⟨a, b, -, -⟩ := VG.two h
  obtain ⟨n1, n2⟩ := VG.ne h
  unfold candS fmtG
  rw [cut_mid _ _ (listT_mem fun x hx => (a x hx).1)]
  simp only
  rw [numT_list n1 (fun x hx => by have := a x hx; omega), numT_list n2 (fun x hx => by have := b x hx; omega)]

/-! ### The reference's reading -/
theorem rd_dig {k : Nat} (h : k < 10) (r : List UInt8) (n : Int) (op : Bool) : rd (UInt8.ofNat (48 + k) :: r) n op = rd r (min (10 * n + (k : Int)) 1000) true := by
  obtain ⟨h1, h2⟩ := dgt_of h
  unfold dgt at h1
  rw [rd_cons, if_pos h1, h2]
  congr 2
  omega
theorem rd_num {x : Int} (h0 : 0 ≤ x) (h1 : x < 100) (r : List UInt8) : rd (itoa x ++ r) 0 false = rd r x true := by
  by_cases h : x < 10
  · rw [itoa_one h0 h, List.singleton_append, rd_dig (by omega)]
    congr 1; omega
  · rw [itoa_two (by omega) h1, List.cons_append, List.singleton_append, rd_dig (by omega), rd_dig (by omega)]
    congr 1; omega
theorem rd_sep {c : UInt8} (h : ¬ (48 ≤ c.toNat ∧ c.toNat ≤ 57)) (r : List UInt8) (x : Int) : rd (c :: r) x true = x :: rd r 0 false := by
  rw [rd_cons, if_neg h]; rfl
theorem rd_list {T : List UInt8} {R : List Int} (hT : ∀ x, rd T x true = x :: R) : ∀ (xs : List Int), xs ≠ [] → Two xs → rd (listT xs ++ T) 0 false = xs ++ R
  | [], h, _ => absurd rfl h
  | [x], _, h => by
    have hx := h x (by simp)
    rw [listT_first, rd_num hx.1 hx.2, hT]; rfl
  | x :: y :: r, _, h => by
    have hx := h x (by simp)
    rw [listT_cons, List.append_assoc, rd_num hx.1 hx.2, List.cons_append, rd_sep (by decide), rd_list hT (y :: r) (by simp) (fun z hz => h z (by simp at hz ⊢; right; exact hz))]
    rfl
theorem rd_fmt {g : Gr} (h : VG g.1 g.2) : rd (fmtG g) 0 false = g.1 ++ g.2 := by
  obtain ⟨a, b, -, -⟩ := VG.two h
  obtain ⟨n1, n2⟩ := VG.ne h
  unfold fmtG
  rw [List.append_assoc]
  refine rd_list (fun x => ?_) g.1 n1 a
  rw [List.cons_append, rd_sep (by decide)]
  congr 1
  have e : ∀ c : UInt8, ¬ (48 ≤ c.toNat ∧ c.toNat ≤ 57) → ∀ r, rd (c :: r) 0 false = rd r 0 false := fun c hc r => by rw [rd_cons, if_neg hc]; rfl
  rw [List.cons_append, e _ (by decide), List.singleton_append, e _ (by decide)]
  have := rd_list (T := []) (R := []) (fun x => rfl) g.2 n2 b
  simpa using this
theorem candR_fmt {g : Gr} (h : VG g.1 g.2) : candR (fmtG g) = g := by
  unfold candR
  rw [rd_fmt h]
  have hl : g.2.length = g.1.length := h.2.2.1
  have e : (g.1 ++ g.2).length / 2 = g.1.length := by rw [List.length_append]; omega
  rw [e, List.take_left, List.drop_left]

/-- Both read the same texts, and the same from them. -/
theorem both_read (s : List UInt8) : (VG (candS s).1 (candS s).2 ∧ fmtG (candS s) = s) ↔ (VG (candR s).1 (candR s).2 ∧ fmtG (candR s) = s) := by
  constructor
  · rintro ⟨h1, h2⟩
    have e : candR s = candS s := by
      have := candR_fmt h1
      rw [h2] at this; exact this
    rw [e]; exact ⟨h1, h2⟩
  · rintro ⟨h1, h2⟩
    have e : candS s = candR s := by
      have := cand_fmt h1
      rw [h2] at this; exact this
    rw [e]; exact ⟨h1, h2⟩
theorem same_read {s : List UInt8} (h1 : VG (candS s).1 (candS s).2) (h2 : fmtG (candS s) = s) : candR s = candS s := by
  have := candR_fmt h1
  rw [h2] at this; exact this
end Go.Proofs.YtadelcikpkhclaaDoor
