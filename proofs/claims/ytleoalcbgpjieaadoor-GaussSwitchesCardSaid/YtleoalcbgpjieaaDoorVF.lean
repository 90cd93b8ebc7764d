/- Any valid code is that of cycles of its own mates: plain. -/
import Derived.Test.YtleoalcbgpjieaaDoorS7
namespace Go.Proofs.YtleoalcbgpjieaaDoor
open Go.Ab
set_option linter.unusedVariables false

/-! ### Places in a list of lists -/
theorem pos_uniq {α : Type} : ∀ {C : List (List α)}, C.flatten.Nodup → ∀ {i j k l : Nat} {c d : List α} {v : α}, C[i]? = some c → c[k]? = some v → C[j]? = some d → d[l]? = some v → i = j ∧ k = l
  | [], _, i, j, k, l, c, d, v, h1, _, _, _ => by simp at h1
  | e :: C, hn, i, j, k, l, c, d, v, h1, h2, h3, h4 => by
    rw [List.flatten_cons, List.nodup_append] at hn
    obtain ⟨n1, n2, n3⟩ := hn
    have vd := List.mem_of_getElem? h4
    have vc := List.mem_of_getElem? h2
    cases i with
    | zero =>
      simp at h1; subst h1
      cases j with
      | zero =>
        simp at h3; subst h3
        refine ⟨rfl, ?_⟩
        obtain ⟨a1, a2⟩ := List.getElem?_eq_some_iff.1 h2
        obtain ⟨b1, b2⟩ := List.getElem?_eq_some_iff.1 h4
        by_cases hkl : k = l
        · exact hkl
        · rcases Nat.lt_or_gt_of_ne hkl with h | h
          · exact absurd (a2.trans b2.symm) ((List.pairwise_iff_getElem.1 n1) k l a1 b1 h)
          · exact absurd (b2.trans a2.symm) ((List.pairwise_iff_getElem.1 n1) l k b1 a1 h)
      | succ j =>
        simp at h3
        exact absurd rfl (n3 v vc v (List.mem_flatten.2 ⟨d, List.mem_of_getElem? h3, vd⟩))
    | succ i =>
      simp at h1
      cases j with
      | zero =>
        simp at h3; subst h3
        exact absurd rfl (n3 v vd v (List.mem_flatten.2 ⟨c, List.mem_of_getElem? h1, vc⟩))
      | succ j =>
        simp at h3
        obtain ⟨a, b⟩ := pos_uniq n2 h1 h2 h3 h4
        exact ⟨by omega, b⟩
/-- The next visit of a sequence. -/
def NX (C : List (List Vis)) (v w : Vis) : Prop := ∃ (i : Nat) (c : List Vis) (k : Nat), C[i]? = some c ∧ c[k]? = some v ∧ c[(k + 1) % c.length]? = some w
theorem NX.mem {C : List (List Vis)} {v w : Vis} (h : NX C v w) : v ∈ C.flatten ∧ w ∈ C.flatten := by
  obtain ⟨i, c, k, h1, h2, h3⟩ := h
  exact ⟨mem_flat h1 h2, mem_flat h1 h3⟩
theorem NX.fn {C : List (List Vis)} (hn : C.flatten.Nodup) {v w w' : Vis} (h : NX C v w) (h' : NX C v w') : w = w' := by
  obtain ⟨i, c, k, h1, h2, h3⟩ := h
  obtain ⟨i', c', k', g1, g2, g3⟩ := h'
  obtain ⟨rfl, rfl⟩ := pos_uniq hn h1 h2 g1 g2
  rw [h1] at g1; cases g1
  rw [h3] at g3; exact Option.some.inj g3
theorem mod_inj {n k l : Nat} (hk : k < n) (hl : l < n) (h : (k + 1) % n = (l + 1) % n) : k = l := by
  by_cases a : k + 1 = n
  · rw [a, Nat.mod_self] at h
    by_cases b : l + 1 = n
    · omega
    · rw [Nat.mod_eq_of_lt (by omega)] at h; omega
  · rw [Nat.mod_eq_of_lt (show k + 1 < n by omega)] at h
    by_cases b : l + 1 = n
    · rw [b, Nat.mod_self] at h; omega
    · rw [Nat.mod_eq_of_lt (by omega)] at h; omega
theorem NX.inj {C : List (List Vis)} (hn : C.flatten.Nodup) {v v' w : Vis} (h : NX C v w) (h' : NX C v' w) : v = v' := by
  obtain ⟨i, c, k, h1, h2, h3⟩ := h
  obtain ⟨i', c', k', g1, g2, g3⟩ := h'
  obtain ⟨rfl, e⟩ := pos_uniq hn h1 h3 g1 g3
  rw [h1] at g1; cases g1
  have := mod_inj (List.getElem?_eq_some_iff.1 h2).1 (List.getElem?_eq_some_iff.1 g2).1 e
  subst this
  rw [h2] at g2; exact Option.some.inj g2
theorem NX.next {C : List (List Vis)} {v : Vis} (h : v ∈ C.flatten) : ∃ w, NX C v w := by
  obtain ⟨c, hc, hv⟩ := List.mem_flatten.1 h
  obtain ⟨i, hi⟩ := List.getElem?_of_mem hc
  obtain ⟨k, hk⟩ := List.getElem?_of_mem hv
  have hl := (List.getElem?_eq_some_iff.1 hk).1
  exact ⟨_, i, c, k, hi, hk, List.getElem?_eq_getElem (Nat.mod_lt _ (by omega))⟩
theorem NX.prev {C : List (List Vis)} {w : Vis} (h : w ∈ C.flatten) : ∃ v, NX C v w := by
  obtain ⟨c, hc, hv⟩ := List.mem_flatten.1 h
  obtain ⟨i, hi⟩ := List.getElem?_of_mem hc
  obtain ⟨k, hk⟩ := List.getElem?_of_mem hv
  have hl := (List.getElem?_eq_some_iff.1 hk).1
  cases k with
  | zero => exact ⟨_, i, c, c.length - 1, hi, List.getElem?_eq_getElem (by omega), by rw [show c.length - 1 + 1 = c.length by omega, Nat.mod_self]; exact hk⟩
  | succ k => exact ⟨_, i, c, k, hi, List.getElem?_eq_getElem (by omega), by rw [Nat.mod_eq_of_lt hl]; exact hk⟩
/-! ### Half-edges of visits -/
/-- A visit of a crossing whose sign is told. -/
structure VOk (S : List Int) (v : Vis) : Prop where
  r0 : 0 ≤ v.1
  r1 : v.1 < S.length
  s : S.getD v.1.toNat 0 = 1 ∨ S.getD v.1.toNat 0 = -1
theorem VG.ok {g : GC} (h : VG g) {v : Vis} (hv : v ∈ g.C.flatten) : VOk g.S v := by
  obtain ⟨h1, h2⟩ := h.2.2.2.2.1 v hv
  refine ⟨h1, h2, ?_⟩
  have hx : g.S[v.1.toNat]? = some (g.S.getD v.1.toNat 0) := by
    rw [List.getD_eq_getElem?_getD, List.getElem?_eq_getElem (by omega)]; rfl
  exact h.2.2.1 _ (List.mem_of_getElem? hx)
theorem VOk.cases {S : List Int} {v : Vis} (h : VOk S v) : ∃ c : Nat, v.1 = c ∧ c < S.length ∧ ((v.2 = false ∧ outG S v = 4 * c + 2 ∧ inG S v = 4 * c) ∨ (v.2 = true ∧ S.getD c 0 = 1 ∧ outG S v = 4 * c + 1 ∧ inG S v = 4 * c + 3) ∨ (v.2 = true ∧ S.getD c 0 = -1 ∧ outG S v = 4 * c + 3 ∧ inG S v = 4 * c + 1)) := by
  have h0 := h.r0
  have h1 := h.r1
  refine ⟨v.1.toNat, by omega, by omega, ?_⟩
  unfold outG inG
  cases hv : v.2 with
  | false => exact .inl ⟨rfl, by simp, by simp⟩
  | true =>
    rcases h.s with hs | hs
    · exact .inr (.inl ⟨rfl, hs, by rw [if_pos rfl, if_pos hs], by rw [if_pos rfl, if_pos hs]⟩)
    · have hn : ¬ S.getD v.1.toNat 0 = 1 := by rw [hs]; decide
      exact .inr (.inr ⟨rfl, hs, by rw [if_pos rfl, if_neg hn], by rw [if_pos rfl, if_neg hn]⟩)
theorem vis_ext {v w : Vis} (h1 : v.1 = w.1) (h2 : v.2 = w.2) : v = w := Prod.ext h1 h2
theorem VOk.out_inj {S : List Int} {v w : Vis} (h : VOk S v) (k : VOk S w) (e : outG S v = outG S w) : v = w := by
  obtain ⟨c, c1, c2, c3⟩ := h.cases
  obtain ⟨d, d1, d2, d3⟩ := k.cases
  have hcd : c = d := by omega
  subst hcd
  refine vis_ext (by omega) ?_
  rcases c3 with ⟨a, b, _⟩ | ⟨a, _, b, _⟩ | ⟨a, _, b, _⟩ <;> rcases d3 with ⟨a', b', _⟩ | ⟨a', _, b', _⟩ | ⟨a', _, b', _⟩ <;> first | (exfalso; omega) | rw [a, a']
theorem VOk.in_inj {S : List Int} {v w : Vis} (h : VOk S v) (k : VOk S w) (e : inG S v = inG S w) : v = w := by
  obtain ⟨c, c1, c2, c3⟩ := h.cases
  obtain ⟨d, d1, d2, d3⟩ := k.cases
  have hcd : c = d := by omega
  subst hcd
  refine vis_ext (by omega) ?_
  rcases c3 with ⟨a, _, b⟩ | ⟨a, _, _, b⟩ | ⟨a, _, _, b⟩ <;> rcases d3 with ⟨a', _, b'⟩ | ⟨a', _, _, b'⟩ | ⟨a', _, _, b'⟩ <;> first | (exfalso; omega) | rw [a, a']
theorem VOk.out_in {S : List Int} {v w : Vis} (h : VOk S v) (k : VOk S w) : outG S v ≠ inG S w := by
  obtain ⟨c, c1, c2, c3⟩ := h.cases
  obtain ⟨d, d1, d2, d3⟩ := k.cases
  intro e
  have hcd : c = d := by omega
  subst hcd
  omega
theorem VOk.turn {S : List Int} {v : Vis} (h : VOk S v) : turnN (inG S v) 2 = outG S v := by
  obtain ⟨c, c1, c2, c3⟩ := h.cases
  unfold turnN
  omega
theorem outB_iff {S : List Int} {h : Nat} : outB S h = true ↔ (h % 4 = 1 ∧ S.getD (h / 4) 0 = 1) ∨ h % 4 = 2 ∨ (h % 4 = 3 ∧ S.getD (h / 4) 0 = -1) := by
  unfold outB
  simp only [Bool.or_eq_true, Bool.and_eq_true, beq_iff_eq, or_assoc]
theorem VOk.outT {S : List Int} {v : Vis} (h : VOk S v) : outB S (outG S v) = true := by
  obtain ⟨c, c1, c2, c3⟩ := h.cases
  have e : outG S v / 4 = c := by omega
  rw [outB_iff, e]; omega
theorem VOk.inF {S : List Int} {v : Vis} (h : VOk S v) : outB S (inG S v) = false := by
  obtain ⟨c, c1, c2, c3⟩ := h.cases
  have e : inG S v / 4 = c := by omega
  cases hb : outB S (inG S v) with
  | false => rfl
  | true => rw [outB_iff, e] at hb; omega
theorem VOk.vis {S : List Int} {v : Vis} (h : VOk S v) : visH (outG S v) = v := by
  obtain ⟨c, c1, c2, c3⟩ := h.cases
  refine vis_ext (by simp only [visH]; omega) ?_
  simp only [visH]
  rcases c3 with ⟨a, b, _⟩ | ⟨a, _, b, _⟩ | ⟨a, _, b, _⟩ <;> rw [a] <;> simp <;> omega
theorem visH_out {S : List Int} {h : Nat} (hb : outB S h = true) : outG S (visH h) = h := by
  have e : ((h : Int) / 4).toNat = h / 4 := by omega
  rw [outB_iff] at hb
  unfold outG visH
  simp only [e, decide_eq_true_eq]
  rcases hb with ⟨h1, h2⟩ | h1 | ⟨h1, h2⟩
  · rw [if_pos (by omega), if_pos h2]; omega
  · rw [if_neg (by omega)]; omega
  · rw [if_pos (by omega), if_neg (by rw [h2]; decide)]; omega
theorem visH_in {S : List Int} (hS : ∀ s ∈ S, s = 1 ∨ s = -1) {h : Nat} (hh : h < 4 * S.length) (hb : outB S h = false) : inG S (visH h) = h := by
  have e : ((h : Int) / 4).toNat = h / 4 := by omega
  have hx : S[h / 4]? = some (S.getD (h / 4) 0) := by
    rw [List.getD_eq_getElem?_getD, List.getElem?_eq_getElem (by omega)]; rfl
  have hs := hS _ (List.mem_of_getElem? hx)
  have hn : ¬ ((h % 4 = 1 ∧ S.getD (h / 4) 0 = 1) ∨ h % 4 = 2 ∨ (h % 4 = 3 ∧ S.getD (h / 4) 0 = -1)) := by
    rw [← outB_iff, hb]; decide
  unfold inG visH
  simp only [e, decide_eq_true_eq]
  by_cases h2 : h % 2 = 1
  · rw [if_pos h2]
    rcases hs with h3 | h3
    · rw [if_pos h3]; omega
    · rw [if_neg (by rw [h3]; decide)]; omega
  · rw [if_neg h2]; omega
/-! ### All visits are there -/
theorem VG.all {g : GC} (h : VG g) {c : Nat} (hc : c < g.S.length) (o : Bool) : ((c : Int), o) ∈ g.C.flatten := by
  obtain ⟨h1, h2, h3, h4, h5, h6, h7⟩ := h
  let f : Vis → Nat := fun v => 2 * v.1.toNat + if v.2 = true then 1 else 0
  have finj : ∀ v ∈ g.C.flatten, ∀ w : Vis, 0 ≤ w.1 → f v = f w → v = w := by
    intro v hv w hw e
    have := h5 v hv
    simp only [f] at e
    refine vis_ext ?_ ?_
    · split at e <;> split at e <;> omega
    · cases hv2 : v.2 <;> cases hw2 : w.2 <;> simp [hv2, hw2] at e ⊢ <;> omega
  by_cases hm : ((c : Int), o) ∈ g.C.flatten
  · exact hm
  · exfalso
    have hx : f ((c : Int), o) < 2 * g.S.length := by simp only [f]; split <;> omega
    have hnd : (g.C.flatten.map f).Nodup := by
      unfold List.Nodup
      rw [List.pairwise_map]
      refine List.Pairwise.imp_of_mem ?_ h6
      intro a b ha hb hab he
      exact hab (finj a ha b (h5 b hb).1 he)
    have hsub : ∀ y ∈ g.C.flatten.map f, y ∈ (List.range (2 * g.S.length)).erase (f ((c : Int), o)) := by
      intro y hy
      obtain ⟨v, hv, rfl⟩ := List.mem_map.1 hy
      have hr := h5 v hv
      refine (List.mem_erase_of_ne fun e => hm ?_).2 (List.mem_range.2 (by simp only [f]; split <;> omega))
      have := finj v hv ((c : Int), o) (by simp only; omega) e
      rw [← this]; exact hv
    have hl := fit_len hnd hsub
    rw [List.length_map, h7, List.length_erase_of_mem (List.mem_range.2 hx), List.length_range] at hl
    omega
/-! ### What is written -/
def setAll (A : List Int) (W : List (Nat × Nat)) : List Int := W.foldl (fun A p => A.set p.1 (p.2 : Nat)) A
theorem setAll_len (W : List (Nat × Nat)) : ∀ A : List Int, (setAll A W).length = A.length := by
  induction W with
  | nil => intro A; rfl
  | cons p W ih => intro A; show (setAll (A.set p.1 (p.2 : Nat)) W).length = _; rw [ih, List.length_set]
theorem setAll_get : ∀ (W : List (Nat × Nat)) (A : List Int) (j x : Nat), j < A.length → (∀ p ∈ W, p.1 = j → p.2 = x) → ((∃ p ∈ W, p.1 = j) ∨ A.getD j 0 = x) → (setAll A W).getD j 0 = x
  | [], A, j, x, hj, hf, h => by
    rcases h with ⟨p, hp, _⟩ | h
    · cases hp
    · exact h
  | q :: W, A, j, x, hj, hf, h => by
    show (setAll (A.set q.1 (q.2 : Nat)) W).getD j 0 = _
    refine setAll_get W _ j x (by rw [List.length_set]; exact hj) (fun p hp => hf p (by simp [hp])) ?_
    by_cases e : q.1 = j
    · refine .inr ?_
      rw [e, getD_set hj, if_pos rfl, hf q (by simp) e]
    · rcases h with ⟨p, hp, h⟩ | h
      · rcases List.mem_cons.1 hp with rfl | hp
        · exact absurd h e
        · exact .inl ⟨p, hp, h⟩
      · refine .inr ?_
        by_cases hq : q.1 < A.length
        · rw [getD_set hq, if_neg (fun h => e h.symm)]; exact h
        · rw [List.set_eq_of_length_le (by omega)]; exact h
def wsC (S : List Int) (c : List Vis) : Nat → List (Nat × Nat)
  | 0 => []
  | k + 1 => wsC S c k ++ [(outG S (c.getD k (0, false)), inG S (c.getD ((k + 1) % c.length) (0, false))), (inG S (c.getD ((k + 1) % c.length) (0, false)), outG S (c.getD k (0, false)))]
def wsG (S : List Int) (C : List (List Vis)) : Nat → List (Nat × Nat)
  | 0 => []
  | i + 1 => wsG S C i ++ wsC S (C.getD i []) (C.getD i []).length
theorem mtC_set (S : List Int) (c : List Vis) (A : List Int) : ∀ k, mtC S c k A = setAll A (wsC S c k)
  | 0 => rfl
  | k + 1 => by rw [mtC, wsC, mtC_set S c A k]; unfold setAll; rw [List.foldl_append]; rfl
theorem mtG_set (S : List Int) (C : List (List Vis)) : ∀ i, mtG S C i = setAll (List.replicate (4 * S.length) 0) (wsG S C i)
  | 0 => rfl
  | i + 1 => by rw [mtG, wsG, mtG_set S C i, mtC_set]; unfold setAll; rw [List.foldl_append]
theorem getD_v {c : List Vis} {k : Nat} {v : Vis} (h : c[k]? = some v) : c.getD k (0, false) = v := by rw [List.getD_eq_getElem?_getD, h]; rfl
theorem mem_wsC {S : List Int} {c : List Vis} {p : Nat × Nat} : ∀ {k : Nat}, k ≤ c.length → (p ∈ wsC S c k ↔ ∃ j v w, j < k ∧ c[j]? = some v ∧ c[(j + 1) % c.length]? = some w ∧ (p = (outG S v, inG S w) ∨ p = (inG S w, outG S v)))
  | 0, _ => by simp [wsC]
  | k + 1, hk => by
    have ih := mem_wsC (S := S) (c := c) (p := p) (k := k) (by omega)
    obtain ⟨v, hv⟩ : ∃ v, c[k]? = some v := ⟨_, List.getElem?_eq_getElem (by omega)⟩
    obtain ⟨w, hw⟩ : ∃ w, c[(k + 1) % c.length]? = some w := ⟨_, List.getElem?_eq_getElem (Nat.mod_lt _ (by omega))⟩
    rw [wsC, List.mem_append, ih, getD_v hv, getD_v hw]
    constructor
    · rintro (⟨j, v', w', h1, h2, h3, h4⟩ | h)
      · exact ⟨j, v', w', by omega, h2, h3, h4⟩
      · simp only [List.mem_cons, List.not_mem_nil, or_false] at h
        exact ⟨k, v, w, by omega, hv, hw, h⟩
    · rintro ⟨j, v', w', h1, h2, h3, h4⟩
      by_cases e : j = k
      · subst e
        rw [hv] at h2; cases h2
        rw [hw] at h3; cases h3
        right; simpa using h4
      · exact .inl ⟨j, v', w', by omega, h2, h3, h4⟩
theorem mem_wsG {S : List Int} {C : List (List Vis)} {p : Nat × Nat} : ∀ {i : Nat}, i ≤ C.length → (p ∈ wsG S C i ↔ ∃ j c, j < i ∧ C[j]? = some c ∧ p ∈ wsC S c c.length)
  | 0, _ => by simp [wsG]
  | i + 1, hi => by
    have ih := mem_wsG (S := S) (C := C) (p := p) (i := i) (by omega)
    obtain ⟨c, hc⟩ : ∃ c, C[i]? = some c := ⟨_, List.getElem?_eq_getElem (by omega)⟩
    have hg : C.getD i [] = c := by rw [List.getD_eq_getElem?_getD, hc]; rfl
    rw [wsG, List.mem_append, ih, hg]
    constructor
    · rintro (⟨j, d, h1, h2, h3⟩ | h)
      · exact ⟨j, d, by omega, h2, h3⟩
      · exact ⟨i, c, by omega, hc, h⟩
    · rintro ⟨j, d, h1, h2, h3⟩
      by_cases e : j = i
      · subst e; rw [hc] at h2; cases h2; exact .inr h3
      · exact .inl ⟨j, d, by omega, h2, h3⟩
theorem mem_ws {S : List Int} {C : List (List Vis)} {p : Nat × Nat} : p ∈ wsG S C C.length ↔ ∃ v w, NX C v w ∧ (p = (outG S v, inG S w) ∨ p = (inG S w, outG S v)) := by
  rw [mem_wsG (Nat.le_refl _)]
  constructor
  · rintro ⟨j, c, h1, h2, h3⟩
    obtain ⟨k, v, w, g1, g2, g3, g4⟩ := (mem_wsC (Nat.le_refl _)).1 h3
    exact ⟨v, w, ⟨j, c, k, h2, g2, g3⟩, g4⟩
  · rintro ⟨v, w, ⟨j, c, k, h2, g2, g3⟩, g4⟩
    exact ⟨j, c, (List.getElem?_eq_some_iff.1 h2).1, h2, (mem_wsC (Nat.le_refl _)).2 ⟨k, v, w, (List.getElem?_eq_some_iff.1 g2).1, g2, g3, g4⟩⟩
/-- The mates of a code. -/
abbrev mtV (g : GC) : List Int := mtG g.S g.C g.C.length
theorem mtV_fn {g : GC} (h : VG g) {p q : Nat × Nat} (hp : p ∈ wsG g.S g.C g.C.length) (hq : q ∈ wsG g.S g.C g.C.length) (e : p.1 = q.1) : p.2 = q.2 := by
  obtain ⟨v, w, h1, h2⟩ := mem_ws.1 hp
  obtain ⟨v', w', g1, g2⟩ := mem_ws.1 hq
  have ov := h.ok h1.mem.1
  have ow := h.ok h1.mem.2
  have ov' := h.ok g1.mem.1
  have ow' := h.ok g1.mem.2
  have hn := h.2.2.2.2.2.1
  rcases h2 with rfl | rfl <;> rcases g2 with rfl | rfl <;> simp only at e ⊢
  · obtain rfl := ov.out_inj ov' e
    rw [h1.fn hn g1]
  · exact absurd e (ov.out_in ow')
  · exact absurd e.symm (ov'.out_in ow)
  · obtain rfl := ow.in_inj ow' e
    rw [h1.inj hn g1]
theorem mtV_at {g : GC} (h : VG g) {v w : Vis} (hx : NX g.C v w) : (mtV g)[outG g.S v]? = some ((inG g.S w : Nat) : Int) ∧ (mtV g)[inG g.S w]? = some ((outG g.S v : Nat) : Int) := by
  have ov := h.ok hx.mem.1
  have ow := h.ok hx.mem.2
  have l1 := outG_lt ov.r0 ov.r1
  have l2 := inG_lt ow.r0 ow.r1
  have hl : (mtV g).length = 4 * g.S.length := mtG_len g.S g.C g.C.length
  have key : ∀ j x, j < 4 * g.S.length → (j, x) ∈ wsG g.S g.C g.C.length → (mtV g)[j]? = some ((x : Nat) : Int) := by
    intro j x hj hm
    have := setAll_get (wsG g.S g.C g.C.length) (List.replicate (4 * g.S.length) 0) j x (by simpa using hj) (fun p hp e => mtV_fn h hp hm e) (.inl ⟨_, hm, rfl⟩)
    rw [← mtG_set, List.getD_eq_getElem?_getD, List.getElem?_eq_getElem (by rw [hl]; exact hj)] at this
    rw [List.getElem?_eq_getElem (by rw [hl]; exact hj)]
    simpa using this
  exact ⟨key _ _ l1 (mem_ws.2 ⟨v, w, hx, .inl rfl⟩), key _ _ l2 (mem_ws.2 ⟨v, w, hx, .inr rfl⟩)⟩
/-- A valid code's mates are in order. -/
theorem VG.front {g : GC} (h : VG g) : Front g.S (mtV g) g.L := by
  have hl : (mtV g).length = 4 * g.S.length := mtG_len g.S g.C g.C.length
  refine ⟨h.1, hl, h.2.1.1, h.2.1.2, h.2.2.1, fun j hj => ?_⟩
  rw [hl] at hj
  have hm : visH j ∈ g.C.flatten := by
    have := h.all (c := j / 4) (by omega) (decide (j % 2 = 1))
    unfold visH
    rwa [show ((j / 4 : Nat) : Int) = (j : Int) / 4 by omega] at this
  cases hb : outB g.S j with
  | true =>
    obtain ⟨w, hx⟩ := NX.next hm
    have ow := h.ok hx.mem.2
    obtain ⟨a1, a2⟩ := mtV_at h hx
    rw [visH_out hb] at a1 a2
    refine ⟨inG g.S w, a1, by rw [hl]; exact inG_lt ow.r0 ow.r1, fun e => ?_, a2, by rw [ow.inF]; decide⟩
    have := ow.inF; rw [e, hb] at this; cases this
  | false =>
    obtain ⟨v, hx⟩ := NX.prev hm
    have ov := h.ok hx.mem.1
    obtain ⟨a1, a2⟩ := mtV_at h hx
    rw [visH_in h.2.2.1 hj hb] at a1 a2
    refine ⟨outG g.S v, a2, by rw [hl]; exact outG_lt ov.r0 ov.r1, fun e => ?_, a1, by rw [ov.outT]; decide⟩
    have := ov.outT; rw [e, hb] at this; cases this
/-- Its sequences, as outgoing half-edges. -/
def outL (g : GC) : List (List Nat) := g.C.map fun c => c.map (outG g.S)
theorem visL_out {g : GC} (h : VG g) {c : List Vis} (hc : ∀ v ∈ c, v ∈ g.C.flatten) : visL (c.map (outG g.S)) = c := by
  unfold visL
  rw [List.map_map]
  have : c.map id = c := List.map_id c
  conv => rhs; rw [← this]
  refine List.map_congr_left fun v hv => ?_
  exact (h.ok (hc v hv)).vis
theorem code_outL {g : GC} (h : VG g) : codeC (outL g) = g.C := by
  unfold codeC outL
  rw [List.map_map]
  have : g.C.map id = g.C := List.map_id _
  conv => rhs; rw [← this]
  refine List.map_congr_left fun c hc => ?_
  exact visL_out h fun v hv => List.mem_flatten.2 ⟨c, hc, hv⟩
theorem outL_flat (g : GC) : (outL g).flatten = g.C.flatten.map (outG g.S) := by
  unfold outL
  rw [List.map_flatten]
theorem psi_nx {g : GC} (h : VG g) {v w : Vis} (hx : NX g.C v w) : psi (mtV g) (outG g.S v) = outG g.S w := by
  unfold psi
  rw [getD_at (mtV_at h hx).1, Int.toNat_natCast]
  exact (h.ok hx.mem.2).turn
theorem VG.cov {g : GC} (h : VG g) : Cov g.S (mtV g) (outL g) := by
  have hl : (mtV g).length = 4 * g.S.length := mtG_len g.S g.C g.C.length
  have hn := h.2.2.2.2.2.1
  refine ⟨fun L hL => ?_, fun j => ?_, ?_⟩
  · obtain ⟨c, hc, rfl⟩ := List.mem_map.1 hL
    obtain ⟨i, hi⟩ := List.getElem?_of_mem hc
    have hcl : 0 < c.length := List.length_pos_iff.2 (h.2.2.2.1 c hc)
    obtain ⟨v0, hv0⟩ : ∃ v, c[0]? = some v := ⟨_, List.getElem?_eq_getElem hcl⟩
    have hit : ∀ j, ∃ v, c[j % c.length]? = some v ∧ it (psi (mtV g)) j (outG g.S v0) = outG g.S v := by
      intro j
      induction j with
      | zero => exact ⟨v0, by rw [Nat.zero_mod]; exact hv0, rfl⟩
      | succ j ih =>
        obtain ⟨v, h1, h2⟩ := ih
        obtain ⟨w, hw⟩ : ∃ w, c[(j % c.length + 1) % c.length]? = some w := ⟨_, List.getElem?_eq_getElem (Nat.mod_lt _ hcl)⟩
        refine ⟨w, by rw [Nat.mod_add_mod] at hw; exact hw, ?_⟩
        show psi (mtV g) (it (psi (mtV g)) j (outG g.S v0)) = _
        rw [h2]
        exact psi_nx h ⟨i, c, _, hi, h1, hw⟩
    refine ⟨outG g.S v0, c.length - 1, ?_, ?_, fun j h1 h2 e => ?_⟩
    · refine List.ext_getElem? fun j => ?_
      unfold orbN
      rw [show c.length - 1 + 1 = c.length by omega]
      by_cases hj : j < c.length
      · obtain ⟨v, a1, a2⟩ := hit j
        rw [Nat.mod_eq_of_lt hj] at a1
        rw [List.getElem?_map, List.getElem?_map, a1, List.getElem?_range hj]
        simp [a2]
      · rw [List.getElem?_eq_none (by simp; omega), List.getElem?_eq_none (by simp; omega)]
    · obtain ⟨v, a1, a2⟩ := hit c.length
      rw [Nat.mod_self, hv0] at a1
      cases a1
      rw [show c.length - 1 + 1 = c.length by omega]; exact a2
    · obtain ⟨v, a1, a2⟩ := hit j
      rw [Nat.mod_eq_of_lt (by omega)] at a1
      rw [a2] at e
      have := (h.ok (mem_flat hi a1)).out_inj (h.ok (mem_flat hi hv0)) e
      subst this
      have := (pos_uniq hn hi a1 hi hv0).2
      omega
  · rw [outL_flat, List.mem_map]
    constructor
    · rintro ⟨v, hv, rfl⟩
      have ov := h.ok hv
      exact ⟨by rw [hl]; exact outG_lt ov.r0 ov.r1, ov.outT⟩
    · rintro ⟨h1, h2⟩
      rw [hl] at h1
      refine ⟨visH j, ?_, visH_out h2⟩
      have := h.all (c := j / 4) (by omega) (decide (j % 2 = 1))
      unfold visH
      rwa [show ((j / 4 : Nat) : Int) = (j : Int) / 4 by omega] at this
  · rw [outL_flat]
    unfold List.Nodup
    rw [List.pairwise_map]
    refine List.Pairwise.imp_of_mem ?_ hn
    intro a b ha hb hab he
    exact hab ((h.ok ha).out_inj (h.ok hb) he)
end Go.Proofs.YtleoalcbgpjieaaDoor
