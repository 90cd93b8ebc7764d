import Derived.Test.YtleoalcbgpjieaaDoorAb27
/- A memory that is what was there and a few blocks more, each known. -/
namespace Go.Ab
set_option linter.unusedVariables false

theorem get_app {α : Type} (h0 L : List α) (k : Nat) : (h0 ++ L)[h0.length + k]? = L[k]? := by
  rw [List.getElem?_append_right (by omega)]
  congr 1; omega
theorem rdA (h0 L : Heap) (k off n : Nat) : readN (h0 ++ L) (h0.length + k) off n = readN L k off n := by simp only [readN, get_app]
theorem set_app {α : Type} (h0 L : List α) (k : Nat) (b : α) : (h0 ++ L).set (h0.length + k) b = h0 ++ L.set k b := by
  rw [List.set_append_right _ _ (by omega)]
  congr 2; omega
theorem wrA (h0 L : Heap) (k off : Nat) (vs : List SV) : writeN (h0 ++ L) (h0.length + k) off vs = (writeN L k off vs).map (h0 ++ ·) := by
  unfold writeN
  rw [get_app]
  cases hL : L[k]? with
  | none => rfl
  | some b =>
    cases b with
    | dead z => rfl
    | cells cs rw' z =>
      cases rw' with
      | false => rfl
      | true =>
        simp only
        split
        · simp
        · rfl
theorem extA (h0 L M : Heap) : Ext (h0 ++ L) (h0 ++ (L ++ M)) := ⟨M, (List.append_assoc _ _ _).symm⟩
theorem isA {h0 : Heap} {s : SV} {n : Nat} {vs : List SV} (L : Heap) (h : IsSl h0 s 1 n vs) : IsSl (h0 ++ L) s 1 n vs := IsSl.ext h ⟨L, rfl⟩

theorem cut1 {cs : List SV} {j : Nat} {x : SV} (h : cs[j]? = some x) : cut cs (0 + j * 1) 1 = some [x] := by
  obtain ⟨hl, e⟩ := List.getElem?_eq_some_iff.1 h
  simp only [Nat.zero_add, Nat.mul_one]
  unfold cut
  rw [if_pos (by omega), List.drop_eq_getElem_cons hl, e]; rfl
theorem rdI {L : Heap} {k j : Nat} {xs : List Int} {rw' : Bool} {z : ESz} {x : Int} (hL : L[k]? = some (.cells (xs.map (.int .i64)) rw' z)) (hx : xs[j]? = some x) : readN L k (0 + j * 1) 1 = some [.int .i64 x] := by
  simp only [readN, hL]
  exact cut1 (by simp [hx])
theorem rdS {L : Heap} {k j : Nat} {vs : List SV} {rw' : Bool} {z : ESz} {x : SV} (hL : L[k]? = some (.cells vs rw' z)) (hx : vs[j]? = some x) : readN L k (0 + j * 1) 1 = some [x] := by
  simp only [readN, hL]
  exact cut1 hx
theorem wrS {L : Heap} {k j : Nat} {vs : List SV} {z : ESz} (hL : L[k]? = some (.cells vs true z)) (hj : j < vs.length) (v : SV) : writeN L k (0 + j * 1) [v] = some (L.set k (.cells (vs.set j v) true z)) := by
  have hsp : splice vs j [v] = vs.set j v := by
    rw [List.set_eq_take_append_cons_drop, if_pos hj]
    simp [splice]
  simp only [writeN, hL, Nat.zero_add, Nat.mul_one, List.length_singleton]
  rw [if_pos (by omega), hsp]
theorem wrI {L : Heap} {k j : Nat} {xs : List Int} {z : ESz} (hL : L[k]? = some (.cells (xs.map (.int .i64)) true z)) (hj : j < xs.length) (v : Int) : writeN L k (0 + j * 1) [.int .i64 v] = some (L.set k (.cells ((xs.set j v).map (.int .i64)) true z)) := by
  rw [wrS hL (by simpa using hj), List.map_set]

theorem extL {h0 L h' : Heap} (h : Ext (h0 ++ L) h') : ∃ T, h' = h0 ++ (L ++ T) := by
  obtain ⟨T, rfl⟩ := h
  exact ⟨T, List.append_assoc _ _ _⟩
theorem IsSl.setL {h0 L : Heap} {s : SV} {n k : Nat} {vs : List SV} {b0 b : Blk} (h : IsSl (h0 ++ L) s 1 n vs) (hL : L[k]? = some b0) (hz : b0.esz ≠ 1) : IsSl (h0 ++ L.set k b) s 1 n vs := by
  rcases h with h | ⟨id, off, cap, b1, e1, e2, e3, e4, e5⟩
  · exact .inl h
  · refine .inr ⟨id, off, cap, b1, e1, ?_, e3, e4, e5⟩
    rw [← set_app, List.getElem?_set_ne (by rintro rfl; rw [get_app, hL] at e2; simp at e2; subst e2; exact hz e3)]
    exact e2
theorem readN_app {B : Heap} {q off n : Nat} {vs : List SV} (L : Heap) (h : readN B q off n = some vs) : readN (B ++ L) q off n = some vs := by
  unfold readN at *
  split at h
  · rename_i cs rw' z hg
    rw [List.getElem?_append_left (List.getElem?_eq_some_iff.1 hg).1, hg]
    exact h
  · simp at h
theorem writeN_app {B B' : Heap} {q off : Nat} {vs : List SV} (L : Heap) (h : writeN B q off vs = some B') : writeN (B ++ L) q off vs = some (B' ++ L) := by
  unfold writeN at *
  split at h
  · rename_i cs z hg
    have hl := (List.getElem?_eq_some_iff.1 hg).1
    rw [List.getElem?_append_left hl, hg]
    simp only
    split at h
    · rw [if_pos (by assumption)]
      simp only [Option.some.injEq] at h
      rw [← h, List.set_append_left _ _ hl]
    · simp at h
  · simp at h
/-- Block q is a cell of two values, to be written. -/
def Cellq (h0 B : Heap) (q : Nat) : Prop := ∀ a b : SV, ∃ B', writeN B q 0 [a, b] = some B' ∧ B'.length = B.length ∧ readN B' q 0 2 = some [a, b] ∧ Ext h0 B'
theorem Cellq.of {h0 L : Heap} {k : Nat} {x y : SV} {z : ESz} (hL : L[k]? = some (.cells [x, y] true z)) : Cellq h0 (h0 ++ L) (h0.length + k) := fun a b => by
  have hk := (List.getElem?_eq_some_iff.1 hL).1
  refine ⟨h0 ++ L.set k (.cells [a, b] true z), ?_, by simp, ?_, ⟨_, rfl⟩⟩
  · rw [wrA]; simp [writeN, hL, splice]
  · rw [rdA]; simp [readN, hk, cut]

section
variable {FT : FuncId → Option AFun} {HK : FuncId → Option Hook} {E : Env} {h0 L L' : Heap} {K : Env → Heap → Prop} {d : Option Nat} {r : List AOp} {x y : AO}
theorem k_boxL {v : AV} {cs : List SV} (hx : ev E x = some v) (hc : v.cells = some cs) (hw : wOps FT HK r (bindE d (some (.sc (.ptr (h0.length + L.length) 0))) E) (h0 ++ (L ++ [.cells cs true 0])) K) :
    wOps FT HK (⟨d, .box x, none⟩ :: r) E (h0 ++ L) K :=
  op_ok (v := some (.sc (.ptr (h0.length + L.length) 0))) (h' := h0 ++ (L ++ [.cells cs true 0])) rfl rfl (by simp only [step1, hx, Option.bind_some, hc, Option.map_some, List.length_append, List.append_assoc]) hw
theorem k_newL {cs : List SV} (hw : wOps FT HK r (bindE d (some (.sc (.ptr (h0.length + L.length) 0))) E) (h0 ++ (L ++ [.cells cs true 0])) K) :
    wOps FT HK (⟨d, .new cs, none⟩ :: r) E (h0 ++ L) K :=
  op_ok (v := some (.sc (.ptr (h0.length + L.length) 0))) (h' := h0 ++ (L ++ [.cells cs true 0])) rfl rfl (by simp only [step1, List.length_append, List.append_assoc]) hw
theorem rep1 (z : SV) : ∀ k, rep [z] k = List.replicate k z
  | 0 => rfl
  | k + 1 => by simp [rep, rep1 z k, List.replicate_succ]
theorem k_mkL {bytes : Nat} {z : SV} {n : Nat} {k1 k2 : IntKind} (hx : evS E x = some (.int k1 n)) (hy : evS E y = some (.int k2 n)) (hb : n * (bytes + 1 : Nat) ≤ bigN)
    (hw : wOps FT HK r (bindE d (some (.sc (.slc (h0.length + L.length) 0 n (some n)))) E) (h0 ++ (L ++ [.cells (List.replicate n z) true 1])) K) : wOps FT HK (⟨d, .mk 1 bytes [z] x y, none⟩ :: r) E (h0 ++ L) K :=
  op_ok (v := some (.sc (.slc (h0.length + L.length) 0 n (some n)))) (h' := h0 ++ (L ++ [.cells (List.replicate n z) true 1])) rfl rfl (by
    simp only [step1, hx, hy]
    rw [if_pos ⟨by omega, Int.le_refl _, by exact_mod_cast hb⟩]
    simp only [Int.toNat_natCast, rep1, List.length_append, List.append_assoc]) hw
theorem k_ldL {k off : Nat} {v : SV} (hx : evS E x = some (.ptr (h0.length + k) off)) (hr : readN L k off 1 = some [v])
    (hw : wOps FT HK r (bindE d (some (.sc v)) E) (h0 ++ L) K) : wOps FT HK (⟨d, .ld 1 false x, none⟩ :: r) E (h0 ++ L) K := op_ld rfl hx (by rw [rdA]; exact hr) hw
theorem k_ldAL {k off n : Nat} {vs : List SV} (hx : evS E x = some (.ptr (h0.length + k) off)) (hr : readN L k off n = some vs)
    (hw : wOps FT HK r (bindE d (some (.agg vs)) E) (h0 ++ L) K) : wOps FT HK (⟨d, .ld n true x, none⟩ :: r) E (h0 ++ L) K := op_ldA rfl hx (by rw [rdA]; exact hr) hw
theorem k_stL {k off n : Nat} {v : AV} {vs : List SV} {p : AO} (ha : evS E p = some (.ptr (h0.length + k) off)) (hx : ev E x = some v) (hc : v.cells = some vs) (hn : vs.length = n) (hr : writeN L k off vs = some L')
    (hw : wOps FT HK r (bindE d none E) (h0 ++ L') K) : wOps FT HK (⟨d, .st n p x, none⟩ :: r) E (h0 ++ L) K :=
  op_ok (v := none) (h' := h0 ++ L') rfl rfl (by simp only [step1, ha, hx, Option.bind_some, hc, hn, if_true, wrA, hr, Option.map_some]) hw
theorem k_box0 {v : AV} {cs : List SV} (hx : ev E x = some v) (hc : v.cells = some cs) (hw : wOps FT HK r (bindE d (some (.sc (.ptr (h0.length + 0) 0))) E) (h0 ++ [.cells cs true 0]) K) :
    wOps FT HK (⟨d, .box x, none⟩ :: r) E h0 K := by
  have := k_boxL (FT := FT) (HK := HK) (h0 := h0) (L := []) (K := K) (d := d) (r := r) hx hc hw
  rwa [List.append_nil] at this
theorem k_new0 {cs : List SV} (hw : wOps FT HK r (bindE d (some (.sc (.ptr (h0.length + 0) 0))) E) (h0 ++ [.cells cs true 0]) K) :
    wOps FT HK (⟨d, .new cs, none⟩ :: r) E h0 K := by
  have := k_newL (FT := FT) (HK := HK) (h0 := h0) (L := []) (K := K) (d := d) (r := r) (E := E) (cs := cs) hw
  rwa [List.append_nil] at this
theorem oK_cell {h : Heap} {a id off n : Nat} {vs : List SV} {Q : AV → Prop} (hE : E.get a = some (.sc (.ptr id off))) (hr : readN h id off n = some vs) (hK : Q (.agg vs)) : oK (resultsA [.cell a n true] E h) Q := by
  have : resultsA [.cell a n true] E h = some (.agg vs) := by simp only [resultsA, resOne, hE, hr, Option.bind_some, cellsAV, if_true, AV.pv, Option.map_some, PV.av]
  rw [this]; exact hK
theorem oK_cellt {h : Heap} {a id off n t : Nat} {vs : List SV} {v : SV} {Q : AV → Prop} (hE : E.get a = some (.sc (.ptr id off))) (hr : readN h id off n = some vs) (ht : E.get t = some (.sc v)) (hK : Q (.tup [.agg vs, .sc v])) : oK (resultsA [.cell a n true, .t t] E h) Q := by
  have : resultsA [.cell a n true, .t t] E h = some (.tup [.agg vs, .sc v]) := by simp only [resultsA, resAll, resOne, hE, hr, ht, Option.bind_some, cellsAV, if_true, AV.pv, Option.map_some]
  rw [this]; exact hK
theorem k_mk0 {bytes : Nat} {z : SV} {n : Nat} {k1 k2 : IntKind} (hx : evS E x = some (.int k1 n)) (hy : evS E y = some (.int k2 n)) (hb : n * (bytes + 1 : Nat) ≤ bigN)
    (hw : wOps FT HK r (bindE d (some (.sc (.slc (h0.length + 0) 0 n (some n)))) E) (h0 ++ [.cells (List.replicate n z) true 1]) K) : wOps FT HK (⟨d, .mk 1 bytes [z] x y, none⟩ :: r) E h0 K := by
  have := k_mkL (FT := FT) (HK := HK) (h0 := h0) (L := []) (K := K) (d := d) (r := r) (E := E) (z := z) hx hy hb hw
  rwa [List.append_nil] at this
theorem k_stB {B B' : Heap} {q off n : Nat} {v : AV} {vs : List SV} {p : AO} (ha : evS E p = some (.ptr q off)) (hx : ev E x = some v) (hc : v.cells = some vs) (hn : vs.length = n) (hr : writeN B q off vs = some B')
    (hw : wOps FT HK r (bindE d none E) (B' ++ L) K) : wOps FT HK (⟨d, .st n p x, none⟩ :: r) E (B ++ L) K :=
  op_ok (v := none) (h' := B' ++ L) rfl rfl (by simp only [step1, ha, hx, Option.bind_some, hc, hn, if_true, writeN_app L hr, Option.map_some]) hw
theorem k_bld {zero cs : List SV} {parts : List (Nat × Nat × AO)} {ps : List (Nat × Nat × List SV)} {h : Heap} (hp : evParts E parts = some ps) (hf : fillA zero ps = some cs)
    (hw : wOps FT HK r (bindE d (some (.agg cs)) E) h K) : wOps FT HK (⟨d, .bld zero parts, none⟩ :: r) E h K :=
  op_ok rfl rfl (by simp only [step1, hp, Option.bind_some, hf, Option.map_some]) hw
end
end Go.Ab


/- Cells of two values (structs of two fields) that are written. -/
namespace Go.Ab
set_option linter.unusedVariables false

def Cel (h : Heap) (q : Nat) (a b : SV) : Prop := h[q]? = some (.cells [a, b] true 0)
theorem Cel.lt {h : Heap} {q : Nat} {a b : SV} (c : Cel h q a b) : q < h.length := (List.getElem?_eq_some_iff.1 c).1
theorem Cel.ext {h h' : Heap} {q : Nat} {a b : SV} (c : Cel h q a b) (he : Ext h h') : Cel h' q a b := he.get _ _ c
theorem Cel.at {h : Heap} {q : Nat} {a b : SV} (c : Cel h q a b) : Blk.At h q [a, b] := ⟨true, 0, c⟩

/-- Block q was written. -/
structure Wr (h h1 : Heap) (q : Nat) (a b : SV) : Prop where
  eq : h1 = h.set q (.cells [a, b] true 0)
  old : ∃ c d, Cel h q c d
theorem Wr.len {h h1 : Heap} {q : Nat} {a b : SV} (w : Wr h h1 q a b) : h1.length = h.length := by rw [w.eq]; simp
theorem Wr.cel {h h1 : Heap} {q : Nat} {a b : SV} (w : Wr h h1 q a b) : Cel h1 q a b := by
  obtain ⟨c, d, h2⟩ := w.old
  rw [w.eq]; exact List.getElem?_set_self h2.lt
theorem Wr.keep {h h1 : Heap} {q j : Nat} {a b x y : SV} (w : Wr h h1 q a b) (c : Cel h j x y) (hj : j ≠ q) : Cel h1 j x y := by
  rw [w.eq]; unfold Cel; rw [List.getElem?_set_ne (Ne.symm hj)]; exact c
theorem Wr.ext {h0 h h1 : Heap} {q : Nat} {a b : SV} (w : Wr h h1 q a b) (he : Ext h0 h) (hq : h0.length ≤ q) : Ext h0 h1 := by
  rw [w.eq]; exact he.set hq _
theorem Wr.isSl {h h1 : Heap} {q n : Nat} {a b s : SV} {vs : List SV} (w : Wr h h1 q a b) (hs : IsSl h s 1 n vs) : IsSl h1 s 1 n vs := by
  obtain ⟨c, d, hc⟩ := w.old
  rcases hs with hs | ⟨id, off, cap, b1, e1, e2, e3, e4, e5⟩
  · exact .inl hs
  · refine .inr ⟨id, off, cap, b1, e1, ?_, e3, e4, e5⟩
    rw [w.eq, List.getElem?_set_ne (by rintro rfl; rw [hc] at e2; simp at e2; subst e2; exact absurd (show (0 : ESz) = 1 from e3) (by decide))]
    exact e2

section
variable {FT : FuncId → Option AFun} {HK : FuncId → Option Hook} {E : Env} {h : Heap} {K : Env → Heap → Prop} {d : Option Nat} {r : List AOp} {x y : AO}
theorem k_newC {a b : SV} (hw : ∀ h1, Ext h h1 → Cel h1 h.length a b → wOps FT HK r (bindE d (some (.sc (.ptr h.length 0))) E) h1 K) :
    wOps FT HK (⟨d, .new [a, b], none⟩ :: r) E h K :=
  op_ok (v := some (.sc (.ptr h.length 0))) (h' := h ++ [.cells [a, b] true 0]) rfl rfl rfl (hw _ ⟨_, rfl⟩ (by simp [Cel]))
theorem k_boxC {a b : SV} (hx : ev E x = some (.agg [a, b])) (hw : ∀ h1, Ext h h1 → Cel h1 h.length a b → wOps FT HK r (bindE d (some (.sc (.ptr h.length 0))) E) h1 K) :
    wOps FT HK (⟨d, .box x, none⟩ :: r) E h K :=
  op_ok (v := some (.sc (.ptr h.length 0))) (h' := h ++ [.cells [a, b] true 0]) rfl rfl (by simp only [step1, hx, Option.bind_some, AV.cells, Option.map_some]) (hw _ ⟨_, rfl⟩ (by simp [Cel]))
/-- A new cell, and what is put there. -/
theorem k_newst {t : Nat} {a b u v : SV} (hx : ev (bindE (some t) (some (.sc (.ptr h.length 0))) E) x = some (.agg [u, v])) (hw : ∀ h1, Ext h h1 → Cel h1 h.length u v → wOps FT HK r (bindE (some t) (some (.sc (.ptr h.length 0))) E) h1 K) :
    wOps FT HK (⟨some t, .new [a, b], none⟩ :: ⟨none, .st 2 (.t t) x, none⟩ :: r) E h K := by
  refine op_ok (v := some (.sc (.ptr h.length 0))) (h' := h ++ [.cells [a, b] true 0]) rfl rfl rfl ?_
  refine op_ok (v := none) (h' := h ++ [.cells [u, v] true 0]) rfl rfl ?_ (hw _ ⟨_, rfl⟩ (by simp [Cel]))
  have h1 : evS (bindE (some t) (some (.sc (.ptr h.length 0))) E) (.t t) = some (.ptr h.length 0) := by simp [evS, ev, bindE, Env.get]
  simp [step1, h1, hx, AV.cells, writeN, splice]
theorem k_ldC {q : Nat} {a b : SV} (hx : evS E x = some (.ptr q 0)) (hc : Cel h q a b) (hw : wOps FT HK r (bindE d (some (.agg [a, b])) E) h K) : wOps FT HK (⟨d, .ld 2 true x, none⟩ :: r) E h K := k_ldA hx hc.at rfl hw
theorem k_ldC0 {q : Nat} {a b : SV} (hx : evS E x = some (.ptr q (0 + 0))) (hc : Cel h q a b) (hw : wOps FT HK r (bindE d (some (.sc a)) E) h K) : wOps FT HK (⟨d, .ld 1 false x, none⟩ :: r) E h K := k_ldb hx hc.at rfl hw
theorem k_ldC1 {q : Nat} {a b : SV} (hx : evS E x = some (.ptr q (0 + 1))) (hc : Cel h q a b) (hw : wOps FT HK r (bindE d (some (.sc b)) E) h K) : wOps FT HK (⟨d, .ld 1 false x, none⟩ :: r) E h K := k_ldb hx hc.at rfl hw
theorem k_stC {q : Nat} {a b u v : SV} {p : AO} (ha : evS E p = some (.ptr q 0)) (hx : ev E x = some (.agg [a, b])) (hc : Cel h q u v) (hw : ∀ h1, Wr h h1 q a b → wOps FT HK r (bindE d none E) h1 K) :
    wOps FT HK (⟨d, .st 2 p x, none⟩ :: r) E h K :=
  op_ok (v := none) (h' := h.set q (.cells [a, b] true 0)) rfl rfl (by
    have hc' : h[q]? = some (.cells [u, v] true 0) := hc
    simp [step1, ha, hx, AV.cells, writeN, hc', splice]) (hw _ ⟨rfl, _, _, hc⟩)
theorem k_callvC {f : FuncId} {caps : List (Nat × Nat)} {args : List AO} {vs : List AV} {R : AV → Heap → Prop} (hx : evS E x = some (.fn f caps)) (ha : evs E args = some vs) (hc : ∃ v h', Cal FT HK f (vs ++ caps.map fun p => AV.sc (.ptr p.1 p.2)) h v h' ∧ R v h')
    (hw : ∀ v h', R v h' → wOps FT HK r (bindE d (some v) E) h' K) : wOps FT HK (⟨d, .callv x args, none⟩ :: r) E h K := by
  show wOp FT HK _ _ _ _
  unfold wOp
  refine ⟨fun _ => ?_, fun hc => absurd rfl hc⟩
  show wK FT HK E h (.callv x args) _
  simp only [wK, hx, ha]
  exact wCall_of hc hw
theorem Cel.read {q : Nat} {a b : SV} (c : Cel h q a b) : readN h q 0 2 = some [a, b] := c.at.read rfl
end

/-! ### Slices of pairs, grown from nothing -/
def Own2 (h0 h : Heap) (s : SV) (n : Nat) (cs : List SV) : Prop :=
  (s = .nilS ∧ n = 0 ∧ cs = []) ∨ ∃ id, s = .slc id 0 n none ∧ h0.length ≤ id ∧ h[id]? = some (.cells cs true 2) ∧ cs.length = n * 2 ∧ 0 < n
theorem Own2.ext {h0 h h' : Heap} {s : SV} {n : Nat} {cs : List SV} (ho : Own2 h0 h s n cs) (he : Ext h h') : Own2 h0 h' s n cs := by
  rcases ho with ho | ⟨id, h1, h2, h3, h4, h5⟩
  · exact .inl ho
  · exact .inr ⟨id, h1, h2, he.get _ _ h3, h4, h5⟩
theorem Own2.len {h0 h : Heap} {s : SV} {n : Nat} {cs : List SV} (ho : Own2 h0 h s n cs) : lenS false s = some (n : Int) := by
  rcases ho with ⟨rfl, rfl, rfl⟩ | ⟨id, rfl, _⟩ <;> rfl
theorem Own2.weaken {h0 h1 h : Heap} {s : SV} {n : Nat} {cs : List SV} (ho : Own2 h1 h s n cs) (hl : h0.length ≤ h1.length) : Own2 h0 h s n cs := by
  rcases ho with ho | ⟨id, e1, e2, e3⟩
  · exact .inl ho
  · exact .inr ⟨id, e1, Nat.le_trans hl e2, e3⟩
theorem ez2 : (2 : ESz).n = 2 := rfl
theorem push2 {h0 h : Heap} {s : SV} {n : Nat} {cs : List SV} {bytes : Nat} (he : Ext h0 h) (ho : Own2 h0 h s n cs) (hb : (n + 1) * (bytes + 1) ≤ bigN) (a b : SV) :
    ∃ s' h', appS (h ++ [.cells [a, b] true 2]) 2 bytes s 1 [a, b] = some (s', h') ∧ Own2 h0 h' s' (n + 1) (cs ++ [a, b]) ∧ Ext h0 h' := by
  have hl := Ext.len he
  rcases ho with ⟨rfl, rfl, rfl⟩ | ⟨id, rfl, h2, h3, h4, h5⟩
  · refine ⟨.slc (h ++ [Blk.cells [a, b] true 2]).length 0 1 none, (h ++ [.cells [a, b] true 2]) ++ [.cells [a, b] true 2], ?_, .inr ⟨_, rfl, by simp; omega, by simp, rfl, by omega⟩, (he.app _).app _⟩
    simp only [appS]
    rw [if_neg (by omega), if_pos (by omega)]
  · have hid := (List.getElem?_eq_some_iff.1 h3).1
    have h3' : (h ++ [Blk.cells [a, b] true 2])[id]? = some (.cells cs true 2) := by rw [List.getElem?_append_left hid]; exact h3
    have hc : cut cs 0 (n * 2) = some cs := by
      unfold cut
      rw [if_pos (by omega), List.drop_zero, List.take_of_length_le (by omega)]
    refine ⟨.slc (h ++ [Blk.cells [a, b] true 2]).length 0 (n + 1) none, (h ++ [Blk.cells [a, b] true 2]).set id (Blk.dead 2) ++ [Blk.cells (cs ++ [a, b]) true 2], ?_, .inr ⟨_, rfl, by simp; omega, ?_, by simp [h4]; omega, by omega⟩, ?_⟩
    · simp only [appS]
      rw [if_neg (by omega), if_pos (by omega), h3']
      simp only [if_true, ez2, hc]
      rw [if_pos ⟨trivial, .inl rfl⟩]
    · rw [List.getElem?_append_right (by simp)]; simp
    · exact ((he.app _).set h2 _).app _
section
variable {FT : FuncId → Option AFun} {HK : FuncId → Option Hook} {E : Env} {h h0 : Heap} {K : Env → Heap → Prop} {d : Option Nat} {r : List AOp} {xo so : AO}
theorem k_push2 {t n bytes : Nat} {s a b z0 z1 : SV} {cs z2 : List SV} (he : Ext h0 h) (ho : Own2 h0 h s n cs) (hx : ev E xo = some (.agg [a, b])) (hs : evS (bindE (some t) (some (.sc (.slc h.length 0 1 (some 1)))) E) so = some s) (hb : (n + 1) * (bytes + 1) ≤ bigN)
    (hw : ∀ s' h', Own2 h0 h' s' (n + 1) (cs ++ [a, b]) → Ext h0 h' → wOps FT HK r (bindE d (some (.sc s')) (bindE (some t) (some (.sc (.slc h.length 0 1 (some 1)))) E)) h' K) :
    wOps FT HK (⟨some t, .bsl 2 [z0, z1] 1 [(0, xo)], none⟩ :: ⟨d, .app 2 bytes z2 so (.t t), none⟩ :: r) E h K := by
  obtain ⟨s', h', h1, h2, h3⟩ := push2 (bytes := bytes) he ho hb a b
  refine op_ok (v := some (.sc (.slc h.length 0 1 (some 1)))) (h' := h ++ [.cells [a, b] true 2]) rfl rfl ?_ ?_
  · simp [step1, evParts, hx, AV.cells, fillA, rep, splice, ez2]
  refine op_ok (v := some (.sc s')) (h' := h') rfl rfl ?_ (hw s' h' h2 h3)
  have e1 : evS (bindE (some t) (some (.sc (.slc h.length 0 1 (some 1)))) E) (.t t) = some (.slc h.length 0 1 (some 1)) := by simp [evS, ev, bindE, Env.get]
  have e2 : srcCells (h ++ [Blk.cells [a, b] true 2]) 2 (.slc h.length 0 1 (some 1)) = some (1, [a, b]) := by simp [srcCells, readN, cut]
  simp only [step1, hs, e1, Option.bind_some, ez2, e2, h1, Option.map_some]
end
end Go.Ab

