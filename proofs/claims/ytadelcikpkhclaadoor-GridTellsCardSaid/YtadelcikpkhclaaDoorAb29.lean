/- Cells of two values (structs of two fields) that are written. -/
import Derived.Test.YtadelcikpkhclaaDoorAb28
namespace Go.Ab
set_option linter.unusedVariables false

def Cel (h : Heap) (q : Nat) (a b : SV) : Prop := h[q]? = some (.cells [a, b] true 0)
theorem Cel.lt {h : Heap} {q : Nat} {a b : SV} (c : Cel h q a b) : q < h.length := (List.getElem?_eq_some_iff.1 c).1
theorem Cel.ext {h h' : Heap} {q : Nat} {a b : SV} (c : Cel h q a b) (he : Ext h h') : Cel h' q a b := he.get _ _ c
theorem Cel.at {h : Heap} {q : Nat} {a b : SV} (c : Cel h q a b) : Blk.At h q [a, b] := ⟨true, 0, c⟩

/-- Block q was written. -/
structure Wr (h h1 : Heap) (q : Nat) (a b : SV) : Prop where
  eq : h1 = h.set q (.cells [a, b] true 0)
  old : ∃ c d, Cel h q c d
theorem Wr.len {h h1 : Heap} {q : Nat} {a b : SV} (w : Wr h h1 q a b) : h1.length = h.length := by rw [w.eq]; simp
theorem Wr.cel {h h1 : Heap} {q : Nat} {a b : SV} (w : Wr h h1 q a b) : Cel h1 q a b := by
  obtain ⟨c, d, h2⟩ := w.old
  rw [w.eq]; exact List.getElem?_set_self h2.lt
theorem Wr.keep {h h1 : Heap} {q j : Nat} {a b x y : SV} (w : Wr h h1 q a b) (c : Cel h j x y) (hj : j ≠ q) : Cel h1 j x y := by
  rw [w.eq]; unfold Cel; rw [List.getElem?_set_ne (Ne.symm hj)]; exact c
theorem Wr.ext {h0 h h1 : Heap} {q : Nat} {a b : SV} (w : Wr h h1 q a b) (he : Ext h0 h) (hq : h0.length ≤ q) : Ext h0 h1 := by
  rw [w.eq]; exact he.set hq _
theorem Wr.isSl {h h1 : Heap} {q n : Nat} {a b s : SV} {vs : List SV} (w : Wr h h1 q a b) (hs : IsSl h s 1 n vs) : IsSl h1 s 1 n vs := by
  obtain ⟨c, d, hc⟩ := w.old
  rcases hs with hs | ⟨id, off, cap, b1, e1, e2, e3, e4, e5⟩
  · exact .inl hs
  · refine .inr ⟨id, off, cap, b1, e1, ?_, e3, e4, e5⟩
    rw [w.eq, List.getElem?_set_ne (by rintro rfl; rw [hc] at e2; simp at e2; subst e2; exact absurd (show (0 : ESz) = 1 from e3) (by decide))]
    exact e2

section
variable {FT : FuncId → Option AFun} {HK : FuncId → Option Hook} {E : Env} {h : Heap} {K : Env → Heap → Prop} {d : Option Nat} {r : List AOp} {x y : AO}
theorem k_newC {a b : SV} (hw : ∀ h1, Ext h h1 → Cel h1 h.length a b → wOps FT HK r (bindE d (some (.sc (.ptr h.length 0))) E) h1 K) :
    wOps FT HK (⟨d, .new [a, b], none⟩ :: r) E h K :=
  op_ok (v := some (.sc (.ptr h.length 0))) (h' := h ++ [.cells [a, b] true 0]) rfl rfl rfl (hw _ ⟨_, rfl⟩ (by simp [Cel]))
theorem k_boxC {a b : SV} (hx : ev E x = some (.agg [a, b])) (hw : ∀ h1, Ext h h1 → Cel h1 h.length a b → wOps FT HK r (bindE d (some (.sc (.ptr h.length 0))) E) h1 K) :
    wOps FT HK (⟨d, .box x, none⟩ :: r) E h K :=
  op_ok (v := some (.sc (.ptr h.length 0))) (h' := h ++ [.cells [a, b] true 0]) rfl rfl (by simp only [step1, hx, Option.bind_some, AV.cells, Option.map_some]) (hw _ ⟨_, rfl⟩ (by simp [Cel]))
/-- A new cell, and what is put there. -/
theorem k_newst {t : Nat} {a b u v : SV} (hx : ev (bindE (some t) (some (.sc (.ptr h.length 0))) E) x = some (.agg [u, v])) (hw : ∀ h1, Ext h h1 → Cel h1 h.length u v → wOps FT HK r (bindE (some t) (some (.sc (.ptr h.length 0))) E) h1 K) :
    wOps FT HK (⟨some t, .new [a, b], none⟩ :: ⟨none, .st 2 (.t t) x, none⟩ :: r) E h K := by
  refine op_ok (v := some (.sc (.ptr h.length 0))) (h' := h ++ [.cells [a, b] true 0]) rfl rfl rfl ?_
  refine op_ok (v := none) (h' := h ++ [.cells [u, v] true 0]) rfl rfl ?_ (hw _ ⟨_, rfl⟩ (by simp [Cel]))
  have h1 : evS (bindE (some t) (some (.sc (.ptr h.length 0))) E) (.t t) = some (.ptr h.length 0) := by simp [evS, ev, bindE, Env.get]
  simp [step1, h1, hx, AV.cells, writeN, splice]
theorem k_ldC {q : Nat} {a b : SV} (hx : evS E x = some (.ptr q 0)) (hc : Cel h q a b) (hw : wOps FT HK r (bindE d (some (.agg [a, b])) E) h K) : wOps FT HK (⟨d, .ld 2 true x, none⟩ :: r) E h K := k_ldA hx hc.at rfl hw
theorem k_ldC0 {q : Nat} {a b : SV} (hx : evS E x = some (.ptr q (0 + 0))) (hc : Cel h q a b) (hw : wOps FT HK r (bindE d (some (.sc a)) E) h K) : wOps FT HK (⟨d, .ld 1 false x, none⟩ :: r) E h K := k_ldb hx hc.at rfl hw
theorem k_ldC1 {q : Nat} {a b : SV} (hx : evS E x = some (.ptr q (0 + 1))) (hc : Cel h q a b) (hw : wOps FT HK r (bindE d (some (.sc b)) E) h K) : wOps FT HK (⟨d, .ld 1 false x, none⟩ :: r) E h K := k_ldb hx hc.at rfl hw
theorem k_stC {q : Nat} {a b u v : SV} {p : AO} (ha : evS E p = some (.ptr q 0)) (hx : ev E x = some (.agg [a, b])) (hc : Cel h q u v) (hw : ∀ h1, Wr h h1 q a b → wOps FT HK r (bindE d none E) h1 K) :
    wOps FT HK (⟨d, .st 2 p x, none⟩ :: r) E h K :=
  op_ok (v := none) (h' := h.set q (.cells [a, b] true 0)) rfl rfl (by
    have hc' : h[q]? = some (.cells [u, v] true 0) := hc
    simp [step1, ha, hx, AV.cells, writeN, hc', splice]) (hw _ ⟨rfl, _, _, hc⟩)
theorem k_callvC {f : FuncId} {caps : List (Nat × Nat)} {args : List AO} {vs : List AV} {R : AV → Heap → Prop} (hx : evS E x = some (.fn f caps)) (ha : evs E args = some vs) (hc : ∃ v h', Cal FT HK f (vs ++ caps.map fun p => AV.sc (.ptr p.1 p.2)) h v h' ∧ R v h')
    (hw : ∀ v h', R v h' → wOps FT HK r (bindE d (some v) E) h' K) : wOps FT HK (⟨d, .callv x args, none⟩ :: r) E h K := by
  show wOp FT HK _ _ _ _
  unfold wOp
  refine ⟨fun _ => ?_, fun hc => absurd rfl hc⟩
  show wK FT HK E h (.callv x args) _
  simp only [wK, hx, ha]
  exact wCall_of hc hw
theorem Cel.read {q : Nat} {a b : SV} (c : Cel h q a b) : readN h q 0 2 = some [a, b] := c.at.read rfl
end

/-! ### Slices of pairs, grown from nothing -/
def Own2 (h0 h : Heap) (s : SV) (n : Nat) (cs : List SV) : Prop :=
  (s = .nilS ∧ n = 0 ∧ cs = []) ∨ ∃ id, s = .slc id 0 n none ∧ h0.length ≤ id ∧ h[id]? = some (.cells cs true 2) ∧ cs.length = n * 2 ∧ 0 < n
theorem Own2.ext {h0 h h' : Heap} {s : SV} {n : Nat} {cs : List SV} (ho : Own2 h0 h s n cs) (he : Ext h h') : Own2 h0 h' s n cs := by
  rcases ho with ho | ⟨id, h1, h2, h3, h4, h5⟩
  · exact .inl ho
  · exact .inr ⟨id, h1, h2, he.get _ _ h3, h4, h5⟩
theorem Own2.len {h0 h : Heap} {s : SV} {n : Nat} {cs : List SV} (ho : Own2 h0 h s n cs) : lenS false s = some (n : Int) := by
  rcases ho with ⟨rfl, rfl, rfl⟩ | ⟨id, rfl, _⟩ <;> rfl
theorem Own2.weaken {h0 h1 h : Heap} {s : SV} {n : Nat} {cs : List SV} (ho : Own2 h1 h s n cs) (hl : h0.length ≤ h1.length) : Own2 h0 h s n cs := by
  rcases ho with ho | ⟨id, e1, e2, e3⟩
  · exact .inl ho
  · exact .inr ⟨id, e1, Nat.le_trans hl e2, e3⟩
theorem ez2 : (2 : ESz).n = 2 := rfl
theorem push2 {h0 h : Heap} {s : SV} {n : Nat} {cs : List SV} {bytes : Nat} (he : Ext h0 h) (ho : Own2 h0 h s n cs) (hb : (n + 1) * (bytes + 1) ≤ bigN) (a b : SV) :
    ∃ s' h', appS (h ++ [.cells [a, b] true 2]) 2 bytes s 1 [a, b] = some (s', h') ∧ Own2 h0 h' s' (n + 1) (cs ++ [a, b]) ∧ Ext h0 h' := by
  have hl := Ext.len he
  rcases ho with ⟨rfl, rfl, rfl⟩ | ⟨id, rfl, h2, h3, h4, h5⟩
  · refine ⟨.slc (h ++ [Blk.cells [a, b] true 2]).length 0 1 none, (h ++ [.cells [a, b] true 2]) ++ [.cells [a, b] true 2], ?_, .inr ⟨_, rfl, by simp; omega, by simp, rfl, by omega⟩, (he.app _).app _⟩
    simp only [appS]
    rw [if_neg (by omega), if_pos (by omega)]
  · have hid := (List.getElem?_eq_some_iff.1 h3).1
    have h3' : (h ++ [Blk.cells [a, b] true 2])[id]? = some (.cells cs true 2) := by rw [List.getElem?_append_left hid]; exact h3
    have hc : cut cs 0 (n * 2) = some cs := by
      unfold cut
      rw [if_pos (by omega), List.drop_zero, List.take_of_length_le (by omega)]
    refine ⟨.slc (h ++ [Blk.cells [a, b] true 2]).length 0 (n + 1) none, (h ++ [Blk.cells [a, b] true 2]).set id (Blk.dead 2) ++ [Blk.cells (cs ++ [a, b]) true 2], ?_, .inr ⟨_, rfl, by simp; omega, ?_, by simp [h4]; omega, by omega⟩, ?_⟩
    · simp only [appS]
      rw [if_neg (by omega), if_pos (by omega), h3']
      simp only [if_true, ez2, hc]
      rw [if_pos ⟨trivial, .inl rfl⟩]
    · rw [List.getElem?_append_right (by simp)]; simp
    · exact ((he.app _).set h2 _).app _
section
variable {FT : FuncId → Option AFun} {HK : FuncId → Option Hook} {E : Env} {h h0 : Heap} {K : Env → Heap → Prop} {d : Option Nat} {r : List AOp} {xo so : AO}
theorem k_push2 {t n bytes : Nat} {s a b z0 z1 : SV} {cs z2 : List SV} (he : Ext h0 h) (ho : Own2 h0 h s n cs) (hx : ev E xo = some (.agg [a, b])) (hs : evS (bindE (some t) (some (.sc (.slc h.length 0 1 (some 1)))) E) so = some s) (hb : (n + 1) * (bytes + 1) ≤ bigN)
    (hw : ∀ s' h', Own2 h0 h' s' (n + 1) (cs ++ [a, b]) → Ext h0 h' → wOps FT HK r (bindE d (some (.sc s')) (bindE (some t) (some (.sc (.slc h.length 0 1 (some 1)))) E)) h' K) :
    wOps FT HK (⟨some t, .bsl 2 [z0, z1] 1 [(0, xo)], none⟩ :: ⟨d, .app 2 bytes z2 so (.t t), none⟩ :: r) E h K := by
  obtain ⟨s', h', h1, h2, h3⟩ := push2 (bytes := bytes) he ho hb a b
  refine op_ok (v := some (.sc (.slc h.length 0 1 (some 1)))) (h' := h ++ [.cells [a, b] true 2]) rfl rfl ?_ ?_
  · simp [step1, evParts, hx, AV.cells, fillA, rep, splice, ez2]
  refine op_ok (v := some (.sc s')) (h' := h') rfl rfl ?_ (hw s' h' h2 h3)
  have e1 : evS (bindE (some t) (some (.sc (.slc h.length 0 1 (some 1)))) E) (.t t) = some (.slc h.length 0 1 (some 1)) := by simp [evS, ev, bindE, Env.get]
  have e2 : srcCells (h ++ [Blk.cells [a, b] true 2]) 2 (.slc h.length 0 1 (some 1)) = some (1, [a, b]) := by simp [srcCells, readN, cut]
  simp only [step1, hs, e1, Option.bind_some, ez2, e2, h1, Option.map_some]
end
end Go.Ab
