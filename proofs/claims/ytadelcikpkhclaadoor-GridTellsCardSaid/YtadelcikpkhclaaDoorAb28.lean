/- A memory that is what was there and a few blocks more, each known. -/
import Derived.Test.YtadelcikpkhclaaDoorAb27
namespace Go.Ab
set_option linter.unusedVariables false

theorem get_app {α : Type} (h0 L : List α) (k : Nat) : (h0 ++ L)[h0.length + k]? = L[k]? := by
  rw [List.getElem?_append_right (by omega)]
  congr 1; omega
theorem rdA (h0 L : Heap) (k off n : Nat) : readN (h0 ++ L) (h0.length + k) off n = readN L k off n := by simp only [readN, get_app]
theorem set_app {α : Type} (h0 L : List α) (k : Nat) (b : α) : (h0 ++ L).set (h0.length + k) b = h0 ++ L.set k b := by
  rw [List.set_append_right _ _ (by omega)]
  congr 2; omega
theorem wrA (h0 L : Heap) (k off : Nat) (vs : List SV) : writeN (h0 ++ L) (h0.length + k) off vs = (writeN L k off vs).map (h0 ++ ·) := by
  unfold writeN
  rw [get_app]
  cases hL : L[k]? with
  | none => rfl
  | some b =>
    cases b with
    | dead z => rfl
    | cells cs rw' z =>
      cases rw' with
      | false => rfl
      | true =>
        simp only
        split
        · simp
        · rfl
theorem extA (h0 L M : Heap) : Ext (h0 ++ L) (h0 ++ (L ++ M)) := ⟨M, (List.append_assoc _ _ _).symm⟩
theorem isA {h0 : Heap} {s : SV} {n : Nat} {vs : List SV} (L : Heap) (h : IsSl h0 s 1 n vs) : IsSl (h0 ++ L) s 1 n vs := IsSl.ext h ⟨L, rfl⟩

theorem cut1 {cs : List SV} {j : Nat} {x : SV} (h : cs[j]? = some x) : cut cs (0 + j * 1) 1 = some [x] := by
  obtain ⟨hl, e⟩ := List.getElem?_eq_some_iff.1 h
  simp only [Nat.zero_add, Nat.mul_one]
  unfold cut
  rw [if_pos (by omega), List.drop_eq_getElem_cons hl, e]; rfl
theorem rdI {L : Heap} {k j : Nat} {xs : List Int} {rw' : Bool} {z : ESz} {x : Int} (hL : L[k]? = some (.cells (xs.map (.int .i64)) rw' z)) (hx : xs[j]? = some x) : readN L k (0 + j * 1) 1 = some [.int .i64 x] := by
  simp only [readN, hL]
  exact cut1 (by simp [hx])
theorem rdS {L : Heap} {k j : Nat} {vs : List SV} {rw' : Bool} {z : ESz} {x : SV} (hL : L[k]? = some (.cells vs rw' z)) (hx : vs[j]? = some x) : readN L k (0 + j * 1) 1 = some [x] := by
  simp only [readN, hL]
  exact cut1 hx
theorem wrS {L : Heap} {k j : Nat} {vs : List SV} {z : ESz} (hL : L[k]? = some (.cells vs true z)) (hj : j < vs.length) (v : SV) : writeN L k (0 + j * 1) [v] = some (L.set k (.cells (vs.set j v) true z)) := by
  have hsp : splice vs j [v] = vs.set j v := by
    rw [List.set_eq_take_append_cons_drop, if_pos hj]
    simp [splice]
  simp only [writeN, hL, Nat.zero_add, Nat.mul_one, List.length_singleton]
  rw [if_pos (by omega), hsp]
theorem wrI {L : Heap} {k j : Nat} {xs : List Int} {z : ESz} (hL : L[k]? = some (.cells (xs.map (.int .i64)) true z)) (hj : j < xs.length) (v : Int) : writeN L k (0 + j * 1) [.int .i64 v] = some (L.set k (.cells ((xs.set j v).map (.int .i64)) true z)) := by
  rw [wrS hL (by simpa using hj), List.map_set]

theorem extL {h0 L h' : Heap} (h : Ext (h0 ++ L) h') : ∃ T, h' = h0 ++ (L ++ T) := by
  obtain ⟨T, rfl⟩ := h
  exact ⟨T, List.append_assoc _ _ _⟩
theorem IsSl.setL {h0 L : Heap} {s : SV} {n k : Nat} {vs : List SV} {b0 b : Blk} (h : IsSl (h0 ++ L) s 1 n vs) (hL : L[k]? = some b0) (hz : b0.esz ≠ 1) : IsSl (h0 ++ L.set k b) s 1 n vs := by
  rcases h with h | ⟨id, off, cap, b1, e1, e2, e3, e4, e5⟩
  · exact .inl h
  · refine .inr ⟨id, off, cap, b1, e1, ?_, e3, e4, e5⟩
    rw [← set_app, List.getElem?_set_ne (by rintro rfl; rw [get_app, hL] at e2; simp at e2; subst e2; exact hz e3)]
    exact e2
theorem readN_app {B : Heap} {q off n : Nat} {vs : List SV} (L : Heap) (h : readN B q off n = some vs) : readN (B ++ L) q off n = some vs := by
  unfold readN at *
  split at h
  · rename_i cs rw' z hg
    rw [List.getElem?_append_left (List.getElem?_eq_some_iff.1 hg).1, hg]
    exact h
  · simp at h
theorem writeN_app {B B' : Heap} {q off : Nat} {vs : List SV} (L : Heap) (h : writeN B q off vs = some B') : writeN (B ++ L) q off vs = some (B' ++ L) := by
  unfold writeN at *
  split at h
  · rename_i cs z hg
    have hl := (List.getElem?_eq_some_iff.1 hg).1
    rw [List.getElem?_append_left hl, hg]
    simp only
    split at h
    · rw [if_pos (by assumption)]
      simp only [Option.some.injEq] at h
      rw [← h, List.set_append_left _ _ hl]
    · simp at h
  · simp at h
/-- Block q is a cell of two values, to be written. -/
def Cellq (h0 B : Heap) (q : Nat) : Prop := ∀ a b : SV, ∃ B', writeN B q 0 [a, b] = some B' ∧ B'.length = B.length ∧ readN B' q 0 2 = some [a, b] ∧ Ext h0 B'
theorem Cellq.of {h0 L : Heap} {k : Nat} {x y : SV} {z : ESz} (hL : L[k]? = some (.cells [x, y] true z)) : Cellq h0 (h0 ++ L) (h0.length + k) := fun a b => by
  have hk := (List.getElem?_eq_some_iff.1 hL).1
  refine ⟨h0 ++ L.set k (.cells [a, b] true z), ?_, by simp, ?_, ⟨_, rfl⟩⟩
  · rw [wrA]; simp [writeN, hL, splice]
  · rw [rdA]; simp [readN, hk, cut]

section
variable {FT : FuncId → Option AFun} {HK : FuncId → Option Hook} {E : Env} {h0 L L' : Heap} {K : Env → Heap → Prop} {d : Option Nat} {r : List AOp} {x y : AO}
theorem k_boxL {v : AV} {cs : List SV} (hx : ev E x = some v) (hc : v.cells = some cs) (hw : wOps FT HK r (bindE d (some (.sc (.ptr (h0.length + L.length) 0))) E) (h0 ++ (L ++ [.cells cs true 0])) K) :
    wOps FT HK (⟨d, .box x, none⟩ :: r) E (h0 ++ L) K :=
  op_ok (v := some (.sc (.ptr (h0.length + L.length) 0))) (h' := h0 ++ (L ++ [.cells cs true 0])) rfl rfl (by simp only [step1, hx, Option.bind_some, hc, Option.map_some, List.length_append, List.append_assoc]) hw
theorem k_newL {cs : List SV} (hw : wOps FT HK r (bindE d (some (.sc (.ptr (h0.length + L.length) 0))) E) (h0 ++ (L ++ [.cells cs true 0])) K) :
    wOps FT HK (⟨d, .new cs, none⟩ :: r) E (h0 ++ L) K :=
  op_ok (v := some (.sc (.ptr (h0.length + L.length) 0))) (h' := h0 ++ (L ++ [.cells cs true 0])) rfl rfl (by simp only [step1, List.length_append, List.append_assoc]) hw
theorem rep1 (z : SV) : ∀ k, rep [z] k = List.replicate k z
  | 0 => rfl
  | k + 1 => by simp [rep, rep1 z k, List.replicate_succ]
theorem k_mkL {bytes : Nat} {z : SV} {n : Nat} {k1 k2 : IntKind} (hx : evS E x = some (.int k1 n)) (hy : evS E y = some (.int k2 n)) (hb : n * (bytes + 1 : Nat) ≤ bigN)
    (hw : wOps FT HK r (bindE d (some (.sc (.slc (h0.length + L.length) 0 n (some n)))) E) (h0 ++ (L ++ [.cells (List.replicate n z) true 1])) K) : wOps FT HK (⟨d, .mk 1 bytes [z] x y, none⟩ :: r) E (h0 ++ L) K :=
  op_ok (v := some (.sc (.slc (h0.length + L.length) 0 n (some n)))) (h' := h0 ++ (L ++ [.cells (List.replicate n z) true 1])) rfl rfl (by
    simp only [step1, hx, hy]
    rw [if_pos ⟨by omega, Int.le_refl _, by exact_mod_cast hb⟩]
    simp only [Int.toNat_natCast, rep1, List.length_append, List.append_assoc]) hw
theorem k_ldL {k off : Nat} {v : SV} (hx : evS E x = some (.ptr (h0.length + k) off)) (hr : readN L k off 1 = some [v])
    (hw : wOps FT HK r (bindE d (some (.sc v)) E) (h0 ++ L) K) : wOps FT HK (⟨d, .ld 1 false x, none⟩ :: r) E (h0 ++ L) K := op_ld rfl hx (by rw [rdA]; exact hr) hw
theorem k_ldAL {k off n : Nat} {vs : List SV} (hx : evS E x = some (.ptr (h0.length + k) off)) (hr : readN L k off n = some vs)
    (hw : wOps FT HK r (bindE d (some (.agg vs)) E) (h0 ++ L) K) : wOps FT HK (⟨d, .ld n true x, none⟩ :: r) E (h0 ++ L) K := op_ldA rfl hx (by rw [rdA]; exact hr) hw
theorem k_stL {k off n : Nat} {v : AV} {vs : List SV} {p : AO} (ha : evS E p = some (.ptr (h0.length + k) off)) (hx : ev E x = some v) (hc : v.cells = some vs) (hn : vs.length = n) (hr : writeN L k off vs = some L')
    (hw : wOps FT HK r (bindE d none E) (h0 ++ L') K) : wOps FT HK (⟨d, .st n p x, none⟩ :: r) E (h0 ++ L) K :=
  op_ok (v := none) (h' := h0 ++ L') rfl rfl (by simp only [step1, ha, hx, Option.bind_some, hc, hn, if_true, wrA, hr, Option.map_some]) hw
theorem k_box0 {v : AV} {cs : List SV} (hx : ev E x = some v) (hc : v.cells = some cs) (hw : wOps FT HK r (bindE d (some (.sc (.ptr (h0.length + 0) 0))) E) (h0 ++ [.cells cs true 0]) K) :
    wOps FT HK (⟨d, .box x, none⟩ :: r) E h0 K := by
  have := k_boxL (FT := FT) (HK := HK) (h0 := h0) (L := []) (K := K) (d := d) (r := r) hx hc hw
  rwa [List.append_nil] at this
theorem k_new0 {cs : List SV} (hw : wOps FT HK r (bindE d (some (.sc (.ptr (h0.length + 0) 0))) E) (h0 ++ [.cells cs true 0]) K) :
    wOps FT HK (⟨d, .new cs, none⟩ :: r) E h0 K := by
  have := k_newL (FT := FT) (HK := HK) (h0 := h0) (L := []) (K := K) (d := d) (r := r) (E := E) (cs := cs) hw
  rwa [List.append_nil] at this
theorem oK_cell {h : Heap} {a id off n : Nat} {vs : List SV} {Q : AV → Prop} (hE : E.get a = some (.sc (.ptr id off))) (hr : readN h id off n = some vs) (hK : Q (.agg vs)) : oK (resultsA [.cell a n true] E h) Q := by
  have : resultsA [.cell a n true] E h = some (.agg vs) := by simp only [resultsA, resOne, hE, hr, Option.bind_some, cellsAV, if_true, AV.pv, Option.map_some, PV.av]
  rw [this]; exact hK
theorem oK_cellt {h : Heap} {a id off n t : Nat} {vs : List SV} {v : SV} {Q : AV → Prop} (hE : E.get a = some (.sc (.ptr id off))) (hr : readN h id off n = some vs) (ht : E.get t = some (.sc v)) (hK : Q (.tup [.agg vs, .sc v])) : oK (resultsA [.cell a n true, .t t] E h) Q := by
  have : resultsA [.cell a n true, .t t] E h = some (.tup [.agg vs, .sc v]) := by simp only [resultsA, resAll, resOne, hE, hr, ht, Option.bind_some, cellsAV, if_true, AV.pv, Option.map_some]
  rw [this]; exact hK
theorem k_mk0 {bytes : Nat} {z : SV} {n : Nat} {k1 k2 : IntKind} (hx : evS E x = some (.int k1 n)) (hy : evS E y = some (.int k2 n)) (hb : n * (bytes + 1 : Nat) ≤ bigN)
    (hw : wOps FT HK r (bindE d (some (.sc (.slc (h0.length + 0) 0 n (some n)))) E) (h0 ++ [.cells (List.replicate n z) true 1]) K) : wOps FT HK (⟨d, .mk 1 bytes [z] x y, none⟩ :: r) E h0 K := by
  have := k_mkL (FT := FT) (HK := HK) (h0 := h0) (L := []) (K := K) (d := d) (r := r) (E := E) (z := z) hx hy hb hw
  rwa [List.append_nil] at this
theorem k_stB {B B' : Heap} {q off n : Nat} {v : AV} {vs : List SV} {p : AO} (ha : evS E p = some (.ptr q off)) (hx : ev E x = some v) (hc : v.cells = some vs) (hn : vs.length = n) (hr : writeN B q off vs = some B')
    (hw : wOps FT HK r (bindE d none E) (B' ++ L) K) : wOps FT HK (⟨d, .st n p x, none⟩ :: r) E (B ++ L) K :=
  op_ok (v := none) (h' := B' ++ L) rfl rfl (by simp only [step1, ha, hx, Option.bind_some, hc, hn, if_true, writeN_app L hr, Option.map_some]) hw
theorem k_bld {zero cs : List SV} {parts : List (Nat × Nat × AO)} {ps : List (Nat × Nat × List SV)} {h : Heap} (hp : evParts E parts = some ps) (hf : fillA zero ps = some cs)
    (hw : wOps FT HK r (bindE d (some (.agg cs)) E) h K) : wOps FT HK (⟨d, .bld zero parts, none⟩ :: r) E h K :=
  op_ok rfl rfl (by simp only [step1, hp, Option.bind_some, hf, Option.map_some]) hw
end
end Go.Ab
