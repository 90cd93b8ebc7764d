/- Codes in memory. -/
import Derived.Test.YtleoalcbgpjieaaDoorFaces2
import Derived.Test.YtleoalcbgpjieaaDoorAb29
import Derived.Test.YtleoalcbgpjieaaDoorAb35
import Derived.Test.YtleoalcbgpjieaaDoorAb32
namespace Go.Proofs.YtleoalcbgpjieaaDoor
open Go.Ab
set_option linter.unusedVariables false
set_option linter.unusedSimpArgs false
set_option maxRecDepth 20000
attribute [local irreducible] wOps wA wSeq wBlk wRound wOpsD

abbrev Vis := Int × Bool
structure GC where
  C : List (List Vis)
  S : List Int
  L : Int
def cnt (n t : Nat) (E : Env) (_ : Heap) : Nat := match E.get t with
  | some (.sc (.int _ i)) => n - i.toNat
  | _ => 0
abbrev ints (xs : List Int) : List SV := xs.map (.int .i64)

/-! ### Codes in memory -/
abbrev vc (v : Vis) : List SV := [.int .i64 v.1, .bool v.2]
def vcs : List Vis → List SV
  | [] => []
  | v :: r => .int .i64 v.1 :: .bool v.2 :: vcs r
theorem vcs_len : ∀ vs : List Vis, (vcs vs).length = vs.length * 2
  | [] => rfl
  | v :: r => by simp [vcs, vcs_len r]; omega
theorem vcs_app : ∀ a b : List Vis, vcs (a ++ b) = vcs a ++ vcs b
  | [], b => rfl
  | v :: r, b => by simp [vcs, vcs_app r b]
theorem vcs_at : ∀ {vs : List Vis} {i : Nat} {v : Vis}, vs[i]? = some v → ((vcs vs).drop (i * 2)).take 2 = vc v
  | [], i, v, h => by simp at h
  | u :: r, 0, v, h => by simp at h; subst h; simp [vcs]
  | u :: r, i + 1, v, h => by
    have e : (i + 1) * 2 = i * 2 + 1 + 1 := by omega
    rw [e]
    simp only [vcs, List.drop_succ_cons]
    exact vcs_at (by simpa using h)
def IsVis (h : Heap) (t : SV) (vs : List Vis) : Prop := IsSl h t 2 vs.length (vcs vs)
theorem IsVis.ext {h h' : Heap} {t : SV} {vs : List Vis} (i : IsVis h t vs) (e : Ext h h') : IsVis h' t vs := IsSl.ext i e
theorem IsVis.len {h : Heap} {t : SV} {vs : List Vis} (i : IsVis h t vs) : lenS false t = some (vs.length : Int) := IsSl.len i
theorem IsVis.at {h : Heap} {t : SV} {vs : List Vis} (hs : IsVis h t vs) {i : Nat} {v : Vis} (hv : vs[i]? = some v) : ∃ id off cap, t = .slc id off vs.length cap ∧ readN h id (off + i * 2) 2 = some (vc v) := by
  have hi := (List.getElem?_eq_some_iff.1 hv).1
  rcases hs with ⟨-, h0, -⟩ | ⟨id, off, cap, b, rfl, h1, h2, h3, h4⟩
  · omega
  · obtain ⟨cs, rw', rfl, hc⟩ := h4 (by omega)
    refine ⟨id, off, cap, rfl, ?_⟩
    unfold readN
    rw [h1]
    simp only
    unfold cut at hc ⊢
    simp only [ez2] at hc
    split at hc
    · rename_i hle
      simp only [Option.some.injEq] at hc
      rw [if_pos (by omega)]
      have : (cs.drop (off + i * 2)).take 2 = (((cs.drop off).take (vs.length * 2)).drop (i * 2)).take 2 := by
        rw [List.drop_take, List.drop_drop, List.take_take]
        rw [Nat.min_eq_left (by omega)]
      rw [this, hc, vcs_at hv]
    · simp at hc
/-- A slice of slices. -/
def IsComps (h : Heap) (X : SV) (C : List (List Vis)) : Prop := ∃ ss : List SV, ss.length = C.length ∧ IsSl h X 1 ss.length ss ∧ ∀ (i : Nat) (t : SV) (vs : List Vis), ss[i]? = some t → C[i]? = some vs → IsVis h t vs
theorem IsComps.ext {h h' : Heap} {X : SV} {C : List (List Vis)} (i : IsComps h X C) (e : Ext h h') : IsComps h' X C := by
  obtain ⟨ss, h1, h2, h3⟩ := i
  exact ⟨ss, h1, IsSl.ext h2 e, fun i t vs a b => (h3 i t vs a b).ext e⟩
theorem IsComps.len {h : Heap} {X : SV} {C : List (List Vis)} (i : IsComps h X C) : lenS false X = some (C.length : Int) := by
  obtain ⟨ss, h1, h2, h3⟩ := i
  rw [← h1]; exact IsSl.len h2
theorem IsComps.at {h : Heap} {X : SV} {C : List (List Vis)} (hs : IsComps h X C) {i : Nat} {vs : List Vis} (hv : C[i]? = some vs) : ∃ id off cap t, X = .slc id off C.length cap ∧ readN h id (off + i * 1) 1 = some [t] ∧ IsVis h t vs := by
  obtain ⟨ss, h1, h2, h3⟩ := hs
  have hi := (List.getElem?_eq_some_iff.1 hv).1
  obtain ⟨t, ht⟩ : ∃ t, ss[i]? = some t := ⟨_, List.getElem?_eq_getElem (by omega)⟩
  obtain ⟨id, off, cap, e1, e2⟩ := IsSl.at h2 ht
  exact ⟨id, off, cap, t, by rw [e1, h1], e2, h3 i t vs ht hv⟩
structure IsCode (h : Heap) (X Sg : SV) (g : GC) : Prop where
  x : IsComps h X g.C
  s : IsInts h Sg g.S
theorem IsCode.ext {h h' : Heap} {X Sg : SV} {g : GC} (i : IsCode h X Sg g) (e : Ext h h') : IsCode h' X Sg g := ⟨i.x.ext e, IsSl.ext i.s e⟩
/-- Not too big to be counted. -/
structure GFits (g : GC) : Prop where
  c : g.C.length ≤ 1000000
  v : g.C.flatten.length ≤ 1000000
  s : g.S.length ≤ 1000000
  l : -9223372036854775808 ≤ g.L ∧ g.L ≤ 9223372036854775807
  n : ∀ v ∈ g.C.flatten, -9223372036854775808 ≤ v.1 ∧ v.1 ≤ 9223372036854775807
theorem mem_flat {C : List (List Vis)} {i k : Nat} {vs : List Vis} {v : Vis} (h1 : C[i]? = some vs) (h2 : vs[k]? = some v) : v ∈ C.flatten := List.mem_flatten.2 ⟨vs, List.mem_of_getElem? h1, List.mem_of_getElem? h2⟩

theorem readN_ext {h h' : Heap} {id off n : Nat} {vs : List SV} (e : Ext h h') (hr : readN h id off n = some vs) : readN h' id off n = some vs := by
  unfold readN at hr ⊢
  split at hr
  · rename_i hg; rw [e.get _ _ hg]; exact hr
  · cases hr

theorem flat_snoc {C : List (List Vis)} {i : Nat} {vs : List Vis} (h : C[i]? = some vs) : (C.take (i + 1)).flatten = (C.take i).flatten ++ vs := by
  rw [take_snoc h]; simp
theorem flat_le {C : List (List Vis)} (i : Nat) : (C.take i).flatten.length ≤ C.flatten.length := by
  conv => rhs; rw [← List.take_append_drop i C, List.flatten_append, List.length_append]
  omega
def Fsh (hs : Heap) (t : SV) : Prop := ∀ j, j < hs.length → NotAt t j
/-! ### Cells of three values -/
def Cel3 (h : Heap) (q : Nat) (a b c : SV) : Prop := h[q]? = some (.cells [a, b, c] true 0)
theorem Cel3.lt {h : Heap} {q : Nat} {a b c : SV} (k : Cel3 h q a b c) : q < h.length := (List.getElem?_eq_some_iff.1 k).1
theorem Cel3.ext {h h' : Heap} {q : Nat} {a b c : SV} (k : Cel3 h q a b c) (he : Ext h h') : Cel3 h' q a b c := he.get _ _ k
theorem Cel3.at {h : Heap} {q : Nat} {a b c : SV} (k : Cel3 h q a b c) : Blk.At h q [a, b, c] := ⟨true, 0, k⟩
theorem Cel3.read {h : Heap} {q : Nat} {a b c : SV} (k : Cel3 h q a b c) : readN h q 0 3 = some [a, b, c] := by
  unfold Cel3 at k
  simp [readN, k, cut]
theorem Cel3.wr {h : Heap} {q : Nat} {a b c : SV} (k : Cel3 h q a b c) :
    (∀ x, writeN h q (0 + 0) [x] = some (h.set q (.cells [x, b, c] true 0))) ∧ (∀ x, writeN h q (0 + 1) [x] = some (h.set q (.cells [a, x, c] true 0))) ∧ (∀ x, writeN h q (0 + 2) [x] = some (h.set q (.cells [a, b, x] true 0))) ∧
    (∀ x y z, Cel3 (h.set q (.cells [x, y, z] true 0)) q x y z) := by
  have hq := k.lt
  unfold Cel3 at k
  exact ⟨fun x => by simp [writeN, k, splice], fun x => by simp [writeN, k, splice], fun x => by simp [writeN, k, splice], fun x y z => by simp [Cel3, hq]⟩
section
variable {FT : FuncId → Option AFun} {HK : FuncId → Option Hook} {E : Env} {h : Heap} {K : Env → Heap → Prop} {d : Option Nat} {r : List AOp} {x y : AO}
theorem k_new3 {a b c : SV} (hw : ∀ h1, Ext h h1 → h1.length = h.length + 1 → Cel3 h1 h.length a b c → wOps FT HK r (bindE d (some (.sc (.ptr h.length 0))) E) h1 K) :
    wOps FT HK (⟨d, .new [a, b, c], none⟩ :: r) E h K :=
  op_ok (v := some (.sc (.ptr h.length 0))) (h' := h ++ [.cells [a, b, c] true 0]) rfl rfl rfl (hw _ ⟨_, rfl⟩ (by simp) (by simp [Cel3]))
theorem k_st3 {q : Nat} {a b c u v w : SV} {p : AO} (ha : evS E p = some (.ptr q 0)) (hx : ev E x = some (.agg [a, b, c])) (hc : Cel3 h q u v w)
    (hw : ∀ h1, h1 = h.set q (.cells [a, b, c] true 0) → Cel3 h1 q a b c → wOps FT HK r (bindE d none E) h1 K) : wOps FT HK (⟨d, .st 3 p x, none⟩ :: r) E h K := by
  have hc' : h[q]? = some (.cells [u, v, w] true 0) := hc
  refine op_ok (v := none) (h' := h.set q (.cells [a, b, c] true 0)) rfl rfl ?_ (hw _ rfl (hc.wr.2.2.2 _ _ _))
  simp [step1, ha, hx, AV.cells, writeN, hc', splice]
theorem k_ld3 {q : Nat} {a b c : SV} (hx : evS E x = some (.ptr q 0)) (hc : Cel3 h q a b c) (hw : wOps FT HK r (bindE d (some (.agg [a, b, c])) E) h K) : wOps FT HK (⟨d, .ld 3 true x, none⟩ :: r) E h K := k_ldA hx hc.at rfl hw
end

theorem own_set {h0 h : Heap} {s : SV} {vs : List SV} {B : Nat} (ho : Own h0 h s vs) (hn : NotAt s B) (b : Blk) : Own h0 (h.set B b) s vs := by
  rcases ho with ho | ⟨id, cap, cs, rfl, h1, h2, h3, h4⟩
  · exact .inl ho
  · exact .inr ⟨id, cap, cs, rfl, h1, by rw [List.getElem?_set_ne (fun e => by subst e; exact hn _ _ _ rfl)]; exact h2, h3, h4⟩
theorem vis_set {h : Heap} {t : SV} {vs : List Vis} {B : Nat} (hv : IsVis h t vs) (hn : NotAt t B) (b : Blk) : IsVis (h.set B b) t vs :=
  IsSl.keep hv fun j x hj hx => by rw [List.getElem?_set_ne (fun e => by subst e; exact hx hn)]; exact hj
theorem Own2.vis {h0 h : Heap} {t : SV} {vs : List Vis} (ho : Own2 h0 h t vs.length (vcs vs)) : IsVis h t vs := by
  rcases ho with ⟨rfl, h1, h2⟩ | ⟨id, rfl, h2, h3, h4, h5⟩
  · exact .inl ⟨rfl, h1, h2⟩
  · refine .inr ⟨id, 0, none, _, rfl, h3, rfl, fun h0 => by omega, fun _ => ⟨_, true, rfl, ?_⟩⟩
    unfold cut
    simp only [ez2]
    rw [if_pos (by omega), List.drop_zero, List.take_of_length_le (by omega)]
theorem apart_new {h0 h : Heap} {X t : SV} {ss : List SV} (hX : Own h0 h X ss) (ht : Fsh h t) : Ab.Apart X t := fun j => by
  rcases hX with ⟨rfl, -⟩ | ⟨id, cap, cs, rfl, -, h2, -⟩
  · exact .inl fun o n c e => by cases e
  · by_cases hj : j = id
    · subst hj
      exact .inr (ht j (List.getElem?_eq_some_iff.1 h2).1)
    · exact .inl fun o n c e => hj (by cases e; rfl)
section
variable {FT : FuncId → Option AFun} {HK : FuncId → Option Hook} {E : Env} {h : Heap} {K : Env → Heap → Prop} {d : Option Nat} {r : List AOp} {x y : AO}
theorem k_pushL {h0 : Heap} {s x z : SV} {vs : List SV} {a b bytes : Nat} {ao bo : AO} {zz : List SV} (he : Ext h0 h) (ho : Own h0 h s vs) (hx : ev E bo = some (.sc x)) (hs : evS (bindE (some a) (some (.sc (.slc h.length 0 1 (some 1)))) E) ao = some s) (hb : (vs.length + 1) * (bytes + 1) ≤ bigN)
    (hw : ∀ s' h', Own h0 h' s' (vs ++ [x]) → Ext h0 h' → Fram h h' s s' → h.length ≤ h'.length → wOps FT HK r (bindE (some b) (some (.sc s')) (bindE (some a) (some (.sc (.slc h.length 0 1 (some 1)))) E)) h' K) :
    wOps FT HK (⟨some a, .bsl 1 [z] 1 [(0, bo)], none⟩ :: ⟨some b, .app 1 bytes zz ao (.t a), none⟩ :: r) E h K := by
  refine op_ok (v := some (.sc (.slc h.length 0 1 (some 1)))) (h' := h ++ [.cells [x] true 1]) rfl rfl ?_ ?_
  · simp only [step1, ESz.one_n]
    rw [if_pos (by omega)]
    simp [evParts, hx, AV.cells, fillA, rep, splice]
  · obtain ⟨s', h', h1, h2, h3, h4⟩ := push_step (bytes := bytes) (x := x) he ho hb
    have hl : h.length ≤ h'.length := by
      have h1' := h1
      rw [Option.bind_eq_some_iff] at h1'
      obtain ⟨p, -, hp⟩ := h1'
      rw [Option.map_eq_some_iff] at hp
      obtain ⟨r, hr, e⟩ := hp
      obtain ⟨-, rfl⟩ := Prod.mk.inj e
      have := appS_len (s' := r.1) (h' := r.2) hr
      simp at this
      omega
    refine op_ok (v := some (.sc s')) (h' := h') rfl rfl ?_ (hw s' h' h2 h3 h4 hl)
    simp only [step1, hs, Option.bind_some]
    have h5 : evS (bindE (some a) (some (.sc (.slc h.length 0 1 (some 1)))) E) (.t a) = some (.slc h.length 0 1 (some 1)) := by
      simp [evS, ev, bindE, Env.get]
    rw [h5]
    exact h1
end
theorem fsh_nil (h : Heap) : Fsh h .nilS := fun j _ o n c e => (by cases e)
section
variable {FT : FuncId → Option AFun} {HK : FuncId → Option Hook} {E : Env} {h : Heap} {K : Env → Heap → Prop} {d : Option Nat} {r : List AOp} {x y : AO}
theorem k_st3e {hx : Heap} {q : Nat} {a b c u v w : SV} {p : AO} (ha : evS E p = some (.ptr q 0)) (hv : ev E x = some (.agg [a, b, c])) (hc : Cel3 h q u v w) (he : Ext hx h) (hq : hx.length ≤ q)
    (hw : ∀ h1, Ext hx h1 → Cel3 h1 q a b c → wOps FT HK r (bindE d none E) h1 K) : wOps FT HK (⟨d, .st 3 p x, none⟩ :: r) E h K :=
  k_st3 ha hv hc fun h1 e c1 => hw h1 (by rw [e]; exact he.set hq _) c1
end
end Go.Proofs.YtleoalcbgpjieaaDoor
