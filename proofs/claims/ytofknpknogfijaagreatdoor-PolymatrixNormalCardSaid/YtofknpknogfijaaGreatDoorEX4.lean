/- Whole slices of pairs appended, and parts of slices. -/
import Derived.Test.YtofknpknogfijaaGreatDoorO1
namespace Go.Proofs.YtofknpknogfijaaGreatDoor
open Go.Ab
set_option linter.unusedVariables false
set_option linter.unusedSimpArgs false
set_option linter.unusedSectionVars false
variable [HB]

theorem cut_part {cs vs : List SV} {off N l m : Nat} (h : cut cs off N = some vs) (hm : l + m ≤ N) : cut cs (off + l) m = some ((vs.drop l).take m) := by
  unfold cut at h ⊢
  split at h
  · simp only [Option.some.injEq] at h
    rw [if_pos (by omega), ← h, List.drop_take, List.drop_drop, List.take_take, Nat.min_eq_left (by omega)]
  · cases h
theorem slPart {h : Heap} {s : SV} {e : ESz} {n l u : Nat} {vs : List SV} (hs : IsSl h s e n vs) (hl : l ≤ u) (hu : u ≤ n) :
    ∃ s', (∀ (_ : e.n = 1), slice1 l u s = some s') ∧ sliceS h e l u s = some s' ∧ IsSl h s' e (u - l) ((vs.drop (l * e.n)).take ((u - l) * e.n)) := by
  rcases hs with ⟨rfl, rfl, rfl⟩ | ⟨id, off, cap, b, rfl, h1, h2, h3, h4⟩
  · have : l = 0 ∧ u = 0 := by omega
    obtain ⟨rfl, rfl⟩ := this
    exact ⟨.nilS, fun _ => by simp [slice1], by simp [sliceS], .inl ⟨rfl, rfl, by simp⟩⟩
  · refine ⟨.slc id (off + l * e.n) (u - l) (cap.map (· - l)), fun h1e => ?_, ?_, .inr ⟨id, _, _, b, rfl, h1, h2, fun h0 => by simp [h0], fun h0 => ?_⟩⟩
    · simp [slice1, hl, hu, h1e]
    · simp [sliceS, h1, h2, hl, hu]
    · obtain ⟨cs, rw', rfl, hc⟩ := h4 (by omega)
      refine ⟨cs, rw', rfl, cut_part hc ?_⟩
      rw [← Nat.add_mul]
      exact Nat.mul_le_mul_right _ (by omega)
theorem intsTo {h : Heap} {s : SV} {xs : List Int} {u : Nat} (hs : IsInts h s xs) (hu : u ≤ xs.length) : ∃ s', slice1 0 u s = some s' ∧ IsInts h s' (xs.take u) := by
  obtain ⟨s', h1, -, h3⟩ := slPart (l := 0) (u := u) hs (Nat.zero_le _) hu
  refine ⟨s', h1 rfl, ?_⟩
  unfold IsInts
  rw [List.length_take, Nat.min_eq_left hu, List.map_take]
  have e1 : ((1 : ESz)).n = 1 := rfl
  rw [e1] at h3
  simpa using h3
theorem intsFrom {h : Heap} {s : SV} {xs : List Int} {l : Nat} (hs : IsInts h s xs) (hl : l ≤ xs.length) : ∃ s', slice1 l xs.length s = some s' ∧ IsInts h s' (xs.drop l) := by
  obtain ⟨s', h1, -, h3⟩ := slPart (l := l) (u := xs.length) hs hl (Nat.le_refl _)
  refine ⟨s', h1 rfl, ?_⟩
  unfold IsInts
  rw [List.length_drop, List.map_drop]
  have e1 : ((1 : ESz)).n = 1 := rfl
  rw [e1, List.take_of_length_le (by simp)] at h3
  simpa using h3
theorem prsTo {h : Heap} {s : SV} {ps : List P2} {u : Nat} (hs : IsD h s ps) (hu : u ≤ ps.length) : ∃ s', sliceS h 2 0 u s = some s' ∧ IsD h s' (ps.take u) := by
  obtain ⟨s', -, h2, h3⟩ := slPart (l := 0) (u := u) hs (Nat.zero_le _) hu
  refine ⟨s', h2, ?_⟩
  unfold IsD
  rw [List.length_take, Nat.min_eq_left hu, prs_take]
  have e1 : ((2 : ESz)).n = 2 := rfl
  rw [e1] at h3
  simpa using h3
theorem prsFrom {h : Heap} {s : SV} {ps : List P2} {l : Nat} (hs : IsD h s ps) (hl : l ≤ ps.length) : ∃ s', sliceS h 2 l ps.length s = some s' ∧ IsD h s' (ps.drop l) := by
  obtain ⟨s', -, h2, h3⟩ := slPart (l := l) (u := ps.length) hs hl (Nat.le_refl _)
  refine ⟨s', h2, ?_⟩
  unfold IsD
  rw [List.length_drop, prs_drop]
  have e1 : ((2 : ESz)).n = 2 := rfl
  rw [e1, List.take_of_length_le (by rw [List.length_drop, prs_len]; omega)] at h3
  exact h3
theorem srcD {h : Heap} {t : SV} {ps : List P2} (ht : IsD h t ps) : srcCells h 2 t = some (ps.length, prs ps) := by
  rcases ht with ⟨rfl, h1, h2⟩ | ⟨id, off, cap, b, rfl, h1, h2, h3, h4⟩
  · rw [h1, h2]; rfl
  · simp only [srcCells]
    by_cases h0 : ps.length = 0
    · rw [if_pos h0, h0, h3 h0]
    · obtain ⟨cs, rw', rfl, hc⟩ := h4 (by omega)
      have e1 : ((2 : ESz)).n = 2 := rfl
      rw [e1] at hc
      rw [if_neg h0]
      simp [readN, h1, hc]
theorem appDs {h0 h : Heap} {s : SV} {ps ws : List P2} {bytes : Nat} (he : Ext h0 h) (ho : OwnD h0 h s ps) (hb : (ps.length + ws.length) * (bytes + 1) ≤ bigN) :
    ∃ s' h', appS h 2 bytes s ws.length (prs ws) = some (s', h') ∧ OwnD h0 h' s' (ps ++ ws) ∧ Ext h0 h' ∧ h.length ≤ h'.length ∧ Fram h h' s s' := by
  by_cases hw : ws.length = 0
  · have : ws = [] := List.eq_nil_of_length_eq_zero hw
    subst this
    refine ⟨s, h, ?_, by rw [List.append_nil]; exact ho, he, Nat.le_refl _, fun j b hj hn => ⟨hj, hn⟩⟩
    rcases ho with ⟨rfl, rfl⟩ | ⟨id, cap, bl, rfl, h1, h2, h3, h4⟩ <;> simp [appS]
  have hl := he.len
  have hp : prs (ps ++ ws) = prs ps ++ prs ws := prs_app _ _
  have hpl : (ps ++ ws).length = ps.length + ws.length := by simp
  have hpr := prs_len ps
  have hwr := prs_len ws
  rcases ho with ⟨rfl, rfl⟩ | ⟨id, cap, bl, rfl, h1, h2, h3, h4⟩
  · refine ⟨.slc h.length 0 ws.length none, h ++ [.cells (prs ws) true 2], ?_, .inr ⟨h.length, none, prs ws, rfl, hl, by simp, by rw [List.nil_append, List.take_of_length_le (by rw [hwr]; exact Nat.le_refl _)], by simp [RoomD, hwr]⟩, he.app _, by simp, fun j b' hj hn => ?_⟩
    · simp only [appS]
      rw [if_neg hw, if_pos (by simpa using hb)]
    · have hjl := (List.getElem?_eq_some_iff.1 hj).1
      exact ⟨mono_app j b' hj, fun o n c hc => by cases hc; omega⟩
  · have hid : id < h.length := (List.getElem?_eq_some_iff.1 h2).1
    have hle := h4.le
    have hcut : cut bl 0 (ps.length * 2) = some (prs ps) := by
      unfold cut
      rw [if_pos (by omega), List.drop_zero, h3]
    have fresh : ∀ (j : Nat) (b : Blk), h[j]? = some b → ∀ k, NotAt (SV.slc h.length 0 k none) j := by
      intro j b hj k o n c hc
      have := (List.getElem?_eq_some_iff.1 hj).1
      cases hc; omega
    cases cap with
    | none =>
      refine ⟨.slc h.length 0 (ps.length + ws.length) none, h.set id (.dead 2) ++ [.cells (prs ps ++ prs ws) true 2], ?_, ?_, (he.set h1 _).app _, by simp, ?_⟩
      · simp only [appS]
        rw [if_neg hw, if_pos hb, h2]
        simp only [if_true, ez2, hcut]
        rw [if_pos ⟨trivial, .inl rfl⟩]
      · refine .inr ⟨h.length, none, prs ps ++ prs ws, by rw [hpl], hl, ?_, ?_, by simp [RoomD, hpr, hwr]; omega⟩
        · rw [List.getElem?_append_right (by simp)]; simp
        · rw [hp, List.take_of_length_le (by simp [hpr, hwr]; omega)]
      · intro j b' hj hn
        have hne : id ≠ j := fun e => by subst e; exact hn _ _ _ rfl
        refine ⟨mono_app j b' ?_, fresh j b' hj _⟩
        rw [List.getElem?_set_ne hne]; exact hj
    | some c =>
      obtain ⟨h5, h6⟩ := h4
      by_cases hc : c < ps.length + ws.length
      · refine ⟨.slc h.length 0 (ps.length + ws.length) none, h ++ [.cells (prs ps ++ prs ws) true 2], ?_, ?_, he.app _, by simp, ?_⟩
        · simp only [appS]
          rw [if_neg hw, if_pos hb, h2]
          simp only [if_true, ez2, hcut]
          rw [if_pos hc]
        · refine .inr ⟨h.length, none, prs ps ++ prs ws, by rw [hpl], hl, ?_, ?_, by simp [RoomD, hpr, hwr]; omega⟩
          · rw [List.getElem?_append_right (Nat.le_refl _)]; simp
          · rw [hp, List.take_of_length_le (by simp [hpr, hwr]; omega)]
        · exact fun j b' hj hn => ⟨mono_app j b' hj, fresh j b' hj _⟩
      · have hsl : (splice bl (0 + ps.length * 2) (prs ws)).length = c * 2 := by simp [splice]; omega
        refine ⟨.slc id 0 (ps.length + ws.length) (some c), h.set id (.cells (splice bl (0 + ps.length * 2) (prs ws)) true 2), ?_, ?_, he.set h1 _, by simp, ?_⟩
        · simp only [appS]
          rw [if_neg hw, if_pos hb, h2]
          simp only [if_true, ez2, hcut]
          rw [if_neg hc]
          simp only [writeN, h2]
          rw [if_pos (by simp; omega)]; rfl
        · refine .inr ⟨id, some c, splice bl (0 + ps.length * 2) (prs ws), by rw [hpl], h1, List.getElem?_set_self hid, ?_, ?_⟩
          · rw [hp, hpl]
            simp only [splice, Nat.zero_add]
            rw [h3, List.take_append_of_le_length (by simp [hpr, hwr]; omega), List.take_of_length_le (by simp [hpr, hwr]; omega)]
          · rw [hpl]; exact ⟨hsl, by omega⟩
        · intro j b' hj hn
          have hne : id ≠ j := fun e => by subst e; exact hn _ _ _ rfl
          refine ⟨?_, fun o n c' e => hn _ _ _ (by cases e; rfl)⟩
          rw [List.getElem?_set_ne hne]; exact hj
section
variable {FT : FuncId → Option AFun} {HK : FuncId → Option Hook} {E : Env} {h h0 : Heap} {K : Env → Heap → Prop} {d : Option Nat} {r : List AOp} {x y lo hi : AO}
theorem k_lit0D {z0 z1 : SV} (hw : ∀ h1, Ext h h1 → OwnD h h1 (.slc h.length 0 0 (some 0)) [] → wOps FT HK r (bindE d (some (.sc (.slc h.length 0 0 (some 0)))) E) h1 K) : wOps FT HK (⟨d, .bsl 2 [z0, z1] 0 [], none⟩ :: r) E h K :=
  op_ok (v := some (.sc (.slc h.length 0 0 (some 0)))) (h' := h ++ [.cells [] true 2]) rfl rfl (by simp [step1, evParts, fillA, rep]) (hw _ ⟨_, rfl⟩ (.inr ⟨h.length, some 0, [], rfl, Nat.le_refl _, by simp, by simp [prs], by simp [RoomD]⟩))
theorem k_appDs {bytes : Nat} {s t : SV} {ps ws : List P2} {z2 : List SV} (he : Ext h0 h) (ho : OwnD h0 h s ps) (hs : evS E x = some s) (hy : evS E y = some t) (ht : IsD h t ws) (hb : (ps.length + ws.length) * (bytes + 1) ≤ bigN)
    (hw : ∀ s' h', OwnD h0 h' s' (ps ++ ws) → Ext h0 h' → Fram h h' s s' → h.length ≤ h'.length → wOps FT HK r (bindE d (some (.sc s')) E) h' K) :
    wOps FT HK (⟨d, .app 2 bytes z2 x y, none⟩ :: r) E h K := by
  obtain ⟨s', h', h1, h2, h3, h4, h5⟩ := appDs (bytes := bytes) he ho hb
  refine op_ok (v := some (.sc s')) (h' := h') rfl rfl ?_ (hw s' h' h2 h3 h5 h4)
  simp only [step1, hs, hy, Option.bind_some, ez2, srcD ht, h1, Option.map_some]
end
end Go.Proofs.YtofknpknogfijaaGreatDoor
