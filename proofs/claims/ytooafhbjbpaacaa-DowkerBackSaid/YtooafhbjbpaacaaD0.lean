/- Cells of three values, slices of one's own. -/
import Derived.Test.YtooafhbjbpaacaaS4
import Derived.Test.YtooafhbjbpaacaaAb29
import Derived.Test.YtooafhbjbpaacaaAb38
namespace Go.Proofs.Ytooafhbjbpaacaa
open Go.Ab
set_option linter.unusedVariables false
set_option linter.unusedSimpArgs false
abbrev ints (xs : List Int) : List SV := xs.map (.int .i64)
/-! ### Cells of three values -/
def Cel3 (h : Heap) (q : Nat) (a b c : SV) : Prop := h[q]? = some (.cells [a, b, c] true 0)
theorem Cel3.lt {h : Heap} {q : Nat} {a b c : SV} (k : Cel3 h q a b c) : q < h.length := (List.getElem?_eq_some_iff.1 k).1
theorem Cel3.ext {h h' : Heap} {q : Nat} {a b c : SV} (k : Cel3 h q a b c) (he : Ext h h') : Cel3 h' q a b c := he.get _ _ k
theorem Cel3.at {h : Heap} {q : Nat} {a b c : SV} (k : Cel3 h q a b c) : Blk.At h q [a, b, c] := ⟨true, 0, k⟩
theorem Cel3.read {h : Heap} {q : Nat} {a b c : SV} (k : Cel3 h q a b c) : readN h q 0 3 = some [a, b, c] := by
  unfold Cel3 at k
  simp [readN, k, cut]
theorem Cel3.wr {h : Heap} {q : Nat} {a b c : SV} (k : Cel3 h q a b c) :
    (∀ x, writeN h q (0 + 0) [x] = some (h.set q (.cells [x, b, c] true 0))) ∧ (∀ x, writeN h q (0 + 1) [x] = some (h.set q (.cells [a, x, c] true 0))) ∧ (∀ x, writeN h q (0 + 2) [x] = some (h.set q (.cells [a, b, x] true 0))) ∧
    (∀ x y z, Cel3 (h.set q (.cells [x, y, z] true 0)) q x y z) := by
  have hq := k.lt
  unfold Cel3 at k
  exact ⟨fun x => by simp [writeN, k, splice], fun x => by simp [writeN, k, splice], fun x => by simp [writeN, k, splice], fun x y z => by simp [Cel3, hq]⟩
section
variable {FT : FuncId → Option AFun} {HK : FuncId → Option Hook} {E : Env} {h : Heap} {K : Env → Heap → Prop} {d : Option Nat} {r : List AOp} {x y : AO}
theorem k_new3 {a b c : SV} (hw : ∀ h1, Ext h h1 → h1.length = h.length + 1 → Cel3 h1 h.length a b c → wOps FT HK r (bindE d (some (.sc (.ptr h.length 0))) E) h1 K) :
    wOps FT HK (⟨d, .new [a, b, c], none⟩ :: r) E h K :=
  op_ok (v := some (.sc (.ptr h.length 0))) (h' := h ++ [.cells [a, b, c] true 0]) rfl rfl rfl (hw _ ⟨_, rfl⟩ (by simp) (by simp [Cel3]))
theorem k_st3 {q : Nat} {a b c u v w : SV} {p : AO} (ha : evS E p = some (.ptr q 0)) (hx : ev E x = some (.agg [a, b, c])) (hc : Cel3 h q u v w)
    (hw : ∀ h1, h1 = h.set q (.cells [a, b, c] true 0) → Cel3 h1 q a b c → wOps FT HK r (bindE d none E) h1 K) : wOps FT HK (⟨d, .st 3 p x, none⟩ :: r) E h K := by
  have hc' : h[q]? = some (.cells [u, v, w] true 0) := hc
  refine op_ok (v := none) (h' := h.set q (.cells [a, b, c] true 0)) rfl rfl ?_ (hw _ rfl (hc.wr.2.2.2 _ _ _))
  simp [step1, ha, hx, AV.cells, writeN, hc', splice]
theorem k_ld3 {q : Nat} {a b c : SV} (hx : evS E x = some (.ptr q 0)) (hc : Cel3 h q a b c) (hw : wOps FT HK r (bindE d (some (.agg [a, b, c])) E) h K) : wOps FT HK (⟨d, .ld 3 true x, none⟩ :: r) E h K := k_ldA hx hc.at rfl hw
end

theorem own_set {h0 h : Heap} {s : SV} {vs : List SV} {B : Nat} (ho : Own h0 h s vs) (hn : NotAt s B) (b : Blk) : Own h0 (h.set B b) s vs := by
  rcases ho with ho | ⟨id, cap, cs, rfl, h1, h2, h3, h4⟩
  · exact .inl ho
  · exact .inr ⟨id, cap, cs, rfl, h1, by rw [List.getElem?_set_ne (fun e => by subst e; exact hn _ _ _ rfl)]; exact h2, h3, h4⟩
section
variable {FT : FuncId → Option AFun} {HK : FuncId → Option Hook} {E : Env} {h : Heap} {K : Env → Heap → Prop} {d : Option Nat} {r : List AOp} {x y : AO}
theorem k_st3e {hx : Heap} {q : Nat} {a b c u v w : SV} {p : AO} (ha : evS E p = some (.ptr q 0)) (hv : ev E x = some (.agg [a, b, c])) (hc : Cel3 h q u v w) (he : Ext hx h) (hq : hx.length ≤ q)
    (hw : ∀ h1, Ext hx h1 → Cel3 h1 q a b c → wOps FT HK r (bindE d none E) h1 K) : wOps FT HK (⟨d, .st 3 p x, none⟩ :: r) E h K :=
  k_st3 ha hv hc fun h1 e c1 => hw h1 (by rw [e]; exact he.set hq _) c1
end
section
variable {FT : FuncId → Option AFun} {HK : FuncId → Option Hook} {E : Env} {h : Heap} {K : Env → Heap → Prop} {r : List AOp} {x : AO}
/-- A new cell of three values, and what is put there. -/
theorem k_newst3 {t : Nat} {a b c u v w : SV} (hx : ev (bindE (some t) (some (.sc (.ptr h.length 0))) E) x = some (.agg [u, v, w])) (hw : ∀ h1, Ext h h1 → Blk.At h1 h.length [u, v, w] → wOps FT HK r (bindE (some t) (some (.sc (.ptr h.length 0))) E) h1 K) :
    wOps FT HK (⟨some t, .new [a, b, c], none⟩ :: ⟨none, .st 3 (.t t) x, none⟩ :: r) E h K := by
  refine op_ok (v := some (.sc (.ptr h.length 0))) (h' := h ++ [.cells [a, b, c] true 0]) rfl rfl rfl ?_
  refine op_ok (v := none) (h' := h ++ [.cells [u, v, w] true 0]) rfl rfl ?_ (hw _ ⟨_, rfl⟩ (Blk.At.last h _ true 0))
  have h1 : evS (bindE (some t) (some (.sc (.ptr h.length 0))) E) (.t t) = some (.ptr h.length 0) := by simp [evS, ev, bindE, Env.get]
  simp [step1, h1, hx, AV.cells, writeN, splice]
end

end Go.Proofs.Ytooafhbjbpaacaa
