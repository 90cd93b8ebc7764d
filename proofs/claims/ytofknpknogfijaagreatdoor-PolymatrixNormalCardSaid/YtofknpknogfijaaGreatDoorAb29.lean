import Derived.Test.YtofknpknogfijaaGreatDoorAb27
/- A memory that is what was there and a few blocks more, each known. -/
namespace Go.Ab
set_option linter.unusedVariables false

theorem isA {h0 : Heap} {s : SV} {n : Nat} {vs : List SV} (L : Heap) (h : IsSl h0 s 1 n vs) : IsSl (h0 ++ L) s 1 n vs := IsSl.ext h ⟨L, rfl⟩

/-- Block q is a cell of two values, to be written. -/
def Cellq (h0 B : Heap) (q : Nat) : Prop := ∀ a b : SV, ∃ B', writeN B q 0 [a, b] = some B' ∧ B'.length = B.length ∧ readN B' q 0 2 = some [a, b] ∧ Ext h0 B'
section
variable {FT : FuncId → Option AFun} {HK : FuncId → Option Hook} {E : Env} {h0 L L' : Heap} {K : Env → Heap → Prop} {d : Option Nat} {r : List AOp} {x y : AO}
theorem oK_cell {h : Heap} {a id off n : Nat} {vs : List SV} {Q : AV → Prop} (hE : E.get a = some (.sc (.ptr id off))) (hr : readN h id off n = some vs) (hK : Q (.agg vs)) : oK (resultsA [.cell a n true] E h) Q := by
  have : resultsA [.cell a n true] E h = some (.agg vs) := by simp only [resultsA, resOne, hE, hr, Option.bind_some, cellsAV, if_true, AV.pv, Option.map_some, PV.av]
  rw [this]; exact hK
theorem k_bld {zero cs : List SV} {parts : List (Nat × Nat × AO)} {ps : List (Nat × Nat × List SV)} {h : Heap} (hp : evParts E parts = some ps) (hf : fillA zero ps = some cs)
    (hw : wOps FT HK r (bindE d (some (.agg cs)) E) h K) : wOps FT HK (⟨d, .bld zero parts, none⟩ :: r) E h K :=
  op_ok rfl rfl (by simp only [step1, hp, Option.bind_some, hf, Option.map_some]) hw
end
end Go.Ab


/- Cells of two values (structs of two fields) that are written. -/
namespace Go.Ab
set_option linter.unusedVariables false

def Cel (h : Heap) (q : Nat) (a b : SV) : Prop := h[q]? = some (.cells [a, b] true 0)
theorem Cel.lt {h : Heap} {q : Nat} {a b : SV} (c : Cel h q a b) : q < h.length := (List.getElem?_eq_some_iff.1 c).1
theorem Cel.ext {h h' : Heap} {q : Nat} {a b : SV} (c : Cel h q a b) (he : Ext h h') : Cel h' q a b := he.get _ _ c
theorem Cel.at {h : Heap} {q : Nat} {a b : SV} (c : Cel h q a b) : Blk.At h q [a, b] := ⟨true, 0, c⟩

/-- Block q was written. -/
structure Wr (h h1 : Heap) (q : Nat) (a b : SV) : Prop where
  eq : h1 = h.set q (.cells [a, b] true 0)
  old : ∃ c d, Cel h q c d
theorem Wr.cel {h h1 : Heap} {q : Nat} {a b : SV} (w : Wr h h1 q a b) : Cel h1 q a b := by
  obtain ⟨c, d, h2⟩ := w.old
  rw [w.eq]; exact List.getElem?_set_self h2.lt
theorem Wr.keep {h h1 : Heap} {q j : Nat} {a b x y : SV} (w : Wr h h1 q a b) (c : Cel h j x y) (hj : j ≠ q) : Cel h1 j x y := by
  rw [w.eq]; unfold Cel; rw [List.getElem?_set_ne (Ne.symm hj)]; exact c
theorem Wr.ext {h0 h h1 : Heap} {q : Nat} {a b : SV} (w : Wr h h1 q a b) (he : Ext h0 h) (hq : h0.length ≤ q) : Ext h0 h1 := by
  rw [w.eq]; exact he.set hq _
section
variable {FT : FuncId → Option AFun} {HK : FuncId → Option Hook} {E : Env} {h : Heap} {K : Env → Heap → Prop} {d : Option Nat} {r : List AOp} {x y : AO}
theorem k_newC {a b : SV} (hw : ∀ h1, Ext h h1 → Cel h1 h.length a b → wOps FT HK r (bindE d (some (.sc (.ptr h.length 0))) E) h1 K) :
    wOps FT HK (⟨d, .new [a, b], none⟩ :: r) E h K :=
  op_ok (v := some (.sc (.ptr h.length 0))) (h' := h ++ [.cells [a, b] true 0]) rfl rfl rfl (hw _ ⟨_, rfl⟩ (by simp [Cel]))
theorem k_boxC {a b : SV} (hx : ev E x = some (.agg [a, b])) (hw : ∀ h1, Ext h h1 → Cel h1 h.length a b → wOps FT HK r (bindE d (some (.sc (.ptr h.length 0))) E) h1 K) :
    wOps FT HK (⟨d, .box x, none⟩ :: r) E h K :=
  op_ok (v := some (.sc (.ptr h.length 0))) (h' := h ++ [.cells [a, b] true 0]) rfl rfl (by simp only [step1, hx, Option.bind_some, AV.cells, Option.map_some]) (hw _ ⟨_, rfl⟩ (by simp [Cel]))
/-- A new cell, and what is put there. -/
theorem k_newst {t : Nat} {a b u v : SV} (hx : ev (bindE (some t) (some (.sc (.ptr h.length 0))) E) x = some (.agg [u, v])) (hw : ∀ h1, Ext h h1 → Cel h1 h.length u v → wOps FT HK r (bindE (some t) (some (.sc (.ptr h.length 0))) E) h1 K) :
    wOps FT HK (⟨some t, .new [a, b], none⟩ :: ⟨none, .st 2 (.t t) x, none⟩ :: r) E h K := by
  refine op_ok (v := some (.sc (.ptr h.length 0))) (h' := h ++ [.cells [a, b] true 0]) rfl rfl rfl ?_
  refine op_ok (v := none) (h' := h ++ [.cells [u, v] true 0]) rfl rfl ?_ (hw _ ⟨_, rfl⟩ (by simp [Cel]))
  have h1 : evS (bindE (some t) (some (.sc (.ptr h.length 0))) E) (.t t) = some (.ptr h.length 0) := by simp [evS, ev, bindE, Env.get]
  simp [step1, h1, hx, AV.cells, writeN, splice]
theorem k_ldC {q : Nat} {a b : SV} (hx : evS E x = some (.ptr q 0)) (hc : Cel h q a b) (hw : wOps FT HK r (bindE d (some (.agg [a, b])) E) h K) : wOps FT HK (⟨d, .ld 2 true x, none⟩ :: r) E h K := k_ldA hx hc.at rfl hw
theorem k_ldC0 {q : Nat} {a b : SV} (hx : evS E x = some (.ptr q (0 + 0))) (hc : Cel h q a b) (hw : wOps FT HK r (bindE d (some (.sc a)) E) h K) : wOps FT HK (⟨d, .ld 1 false x, none⟩ :: r) E h K := k_ldb hx hc.at rfl hw
theorem k_ldC1 {q : Nat} {a b : SV} (hx : evS E x = some (.ptr q (0 + 1))) (hc : Cel h q a b) (hw : wOps FT HK r (bindE d (some (.sc b)) E) h K) : wOps FT HK (⟨d, .ld 1 false x, none⟩ :: r) E h K := k_ldb hx hc.at rfl hw
theorem k_stC {q : Nat} {a b u v : SV} {p : AO} (ha : evS E p = some (.ptr q 0)) (hx : ev E x = some (.agg [a, b])) (hc : Cel h q u v) (hw : ∀ h1, Wr h h1 q a b → wOps FT HK r (bindE d none E) h1 K) :
    wOps FT HK (⟨d, .st 2 p x, none⟩ :: r) E h K :=
  op_ok (v := none) (h' := h.set q (.cells [a, b] true 0)) rfl rfl (by
    have hc' : h[q]? = some (.cells [u, v] true 0) := hc
    simp [step1, ha, hx, AV.cells, writeN, hc', splice]) (hw _ ⟨rfl, _, _, hc⟩)
theorem k_callvC {f : FuncId} {caps : List (Nat × Nat)} {args : List AO} {vs : List AV} {R : AV → Heap → Prop} (hx : evS E x = some (.fn f caps)) (ha : evs E args = some vs) (hc : ∃ v h', Cal FT HK f (vs ++ caps.map fun p => AV.sc (.ptr p.1 p.2)) h v h' ∧ R v h')
    (hw : ∀ v h', R v h' → wOps FT HK r (bindE d (some v) E) h' K) : wOps FT HK (⟨d, .callv x args, none⟩ :: r) E h K := by
  show wOp FT HK _ _ _ _
  unfold wOp
  refine ⟨fun _ => ?_, fun hc => absurd rfl hc⟩
  show wK FT HK E h (.callv x args) _
  simp only [wK, hx, ha]
  exact wCall_of hc hw
theorem Cel.read {q : Nat} {a b : SV} (c : Cel h q a b) : readN h q 0 2 = some [a, b] := c.at.read rfl
end

/-! ### Slices of pairs, grown from nothing -/
def Own2 (h0 h : Heap) (s : SV) (n : Nat) (cs : List SV) : Prop :=
  (s = .nilS ∧ n = 0 ∧ cs = []) ∨ ∃ id, s = .slc id 0 n none ∧ h0.length ≤ id ∧ h[id]? = some (.cells cs true 2) ∧ cs.length = n * 2 ∧ 0 < n
theorem Own2.len {h0 h : Heap} {s : SV} {n : Nat} {cs : List SV} (ho : Own2 h0 h s n cs) : lenS false s = some (n : Int) := by
  rcases ho with ⟨rfl, rfl, rfl⟩ | ⟨id, rfl, _⟩ <;> rfl
theorem ez2 : (2 : ESz).n = 2 := rfl
section
variable {FT : FuncId → Option AFun} {HK : FuncId → Option Hook} {E : Env} {h h0 : Heap} {K : Env → Heap → Prop} {d : Option Nat} {r : List AOp} {xo so : AO}
end
end Go.Ab

