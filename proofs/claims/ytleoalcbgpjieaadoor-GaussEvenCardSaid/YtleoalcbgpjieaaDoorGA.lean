/- The code of a diagram: what is laid in memory. -/
import Derived.Test.YtleoalcbgpjieaaDoorH3
namespace Go.Proofs.YtleoalcbgpjieaaDoor
open Go.Ab
set_option linter.unusedVariables false
set_option linter.unusedSimpArgs false
set_option maxRecDepth 20000
set_option maxHeartbeats 4000000
attribute [local irreducible] wOps wA wSeq wBlk wRound wOpsD

/-- The visits of a strand. -/
def visL (L : List Nat) : List Vis := L.map fun h : Nat => (((h : Nat) : Int) / 4, decide (h % 2 = 1))
theorem visL_len (L : List Nat) : (visL L).length = L.length := by simp [visL]
theorem visL_at {L : List Nat} {k x : Nat} (hx : L[k]? = some x) : (visL L)[k]? = some ((x : Int) / 4, decide (x % 2 = 1)) := by simp [visL, hx]
theorem visL_next {L : List Nat} {k x : Nat} (hx : L[k]? = some x) : vcs ((visL L).take (k + 1)) = vcs ((visL L).take k) ++ [.int .i64 ((x : Int) / 4), .bool (decide (x % 2 = 1))] := by
  rw [take_snoc (visL_at hx), vcs_snoc]
/-- The code. -/
def codeC (Ls : List (List Nat)) : List (List Vis) := Ls.map visL

/-! ### Strands that lie elsewhere -/
def StrO (h : Heap) (q : Nat) (o : SV) (Ls : List (List Nat)) : Prop := ∃ fs : List SV, IsSl h o 1 fs.length fs ∧ NotAt o q ∧ F2 (fun f L => IsStr h f L ∧ NotAt f q) fs Ls
theorem StrO.go {h h' : Heap} {q : Nat} {o : SV} {Ls : List (List Nat)} (s : StrO h q o Ls) (kp : ∀ (j : Nat) (b : Blk), h[j]? = some b → j ≠ q → h'[j]? = some b) : StrO h' q o Ls := by
  obtain ⟨fs, h1, h2, h3⟩ := s
  have g : ∀ {t : SV} {e : ESz} {n : Nat} {ws : List SV}, IsSl h t e n ws → NotAt t q → IsSl h' t e n ws := fun i hn => IsSl.keep i fun j b hj ht => kp j b hj fun e => by subst e; exact ht hn
  exact ⟨fs, g h1 h2, h2, F2.mono (fun f L i => ⟨g i.1 i.2, i.2⟩) h3⟩
theorem StrO.len {h : Heap} {q : Nat} {o : SV} {Ls : List (List Nat)} (s : StrO h q o Ls) : lenS false o = some (Ls.length : Int) := by
  obtain ⟨fs, h1, h2, h3⟩ := s
  rw [← F2.length h3]; exact IsSl.len h1
theorem StrO.at {h : Heap} {q : Nat} {o : SV} {Ls : List (List Nat)} (s : StrO h q o Ls) {i : Nat} {L : List Nat} (hi : Ls[i]? = some L) : ∃ id off cap f, o = .slc id off Ls.length cap ∧ readN h id (off + i * 1) 1 = some [f] ∧ IsStr h f L := by
  obtain ⟨fs, h1, h2, h3⟩ := s
  have hl := F2.length h3
  have hil := (List.getElem?_eq_some_iff.1 hi).1
  obtain ⟨f, hf⟩ : ∃ f, fs[i]? = some f := ⟨_, List.getElem?_eq_getElem (by omega)⟩
  obtain ⟨L', hL', h4⟩ := F2.get h3 hf
  rw [hi] at hL'
  obtain rfl := Option.some.inj hL'
  obtain ⟨id, off, cap, e1, e2⟩ := IsSl.at h1 hf
  exact ⟨id, off, cap, f, by rw [e1, hl], e2, h4.1⟩
theorem IsStrsF.to {H h : Heap} {o : SV} {Ls : List (List Nat)} (i : IsStrsF H h o Ls) {q : Nat} (hq : q < H.length) : StrO h q o Ls := by
  obtain ⟨fs, h1, h2⟩ := i
  exact ⟨fs, h1.sl, notAt_of_le h1 hq, F2.mono (fun f L g => ⟨g.1, fun o n c e => by have := g.2 _ hq; exact this o n c e⟩) h2⟩
theorem IsStr.len {h : Heap} {f : SV} {L : List Nat} (s : IsStr h f L) : lenS false f = some (L.length : Int) := IsSl.len s

/-! ### Slices of pairs, made with room -/
def Own2m (h0 h : Heap) (s : SV) (k c : Nat) (cs : List SV) : Prop := ∃ id bl, s = .slc id 0 k (some c) ∧ h0.length ≤ id ∧ h[id]? = some (.cells bl true 2) ∧ bl.length = c * 2 ∧ cs.length = k * 2 ∧ bl.take (k * 2) = cs ∧ k ≤ c
theorem Own2m.vis {h0 h : Heap} {t : SV} {c : Nat} {vs : List Vis} (ho : Own2m h0 h t vs.length c (vcs vs)) : IsVis h t vs := by
  obtain ⟨id, bl, rfl, h2, h3, h4, h5, h6, h7⟩ := ho
  refine .inr ⟨id, 0, some c, _, rfl, h3, rfl, fun h0 => ?_, fun _ => ⟨bl, true, rfl, ?_⟩⟩
  · exact List.eq_nil_of_length_eq_zero (by rw [h5, h0])
  · unfold cut
    simp only [ez2]
    rw [if_pos (by omega), List.drop_zero, h6]
theorem Own2m.fsh {h0 h : Heap} {t : SV} {k c : Nat} {cs : List SV} (ho : Own2m h0 h t k c cs) : Fsh h0 t := fun j hj o n c e => by
  obtain ⟨id, bl, rfl, h2, -⟩ := ho
  cases e
  omega
section
variable {FT : FuncId → Option AFun} {HK : FuncId → Option Hook} {E : Env} {h h0 : Heap} {K : Env → Heap → Prop} {d : Option Nat} {r : List AOp} {x y xo so : AO}
theorem k_mk2 {bytes : Nat} {a b : SV} {n : Nat} {k1 k2 : IntKind} (he : Ext h0 h) (hx : evS E x = some (.int k1 0)) (hy : evS E y = some (.int k2 (n : Nat))) (hb : (n : Int) * (bytes + 1 : Nat) ≤ bigN)
    (hw : ∀ s h1, Own2m h0 h1 s 0 n [] → Ext h h1 → Ext h0 h1 → wOps FT HK r (bindE d (some (.sc s)) E) h1 K) : wOps FT HK (⟨d, .mk 2 bytes [a, b] x y, none⟩ :: r) E h K := by
  refine op_mk rfl hx hy ⟨by omega, by omega, hb⟩ (hw _ _ ?_ ⟨_, rfl⟩ (he.app _))
  have hr : ∀ m, (rep [a, b] m).length = m * 2 := by
    intro m
    induction m with
    | zero => rfl
    | succ m ih => simp [rep, ih]; omega
  exact ⟨h.length, rep [a, b] n, by simp, he.len, by simp, hr n, rfl, by simp, Nat.zero_le _⟩
theorem push2m {k c bytes : Nat} {s : SV} {cs : List SV} (he : Ext h0 h) (ho : Own2m h0 h s k c cs) (hk : k < c) (hb : (k + 1) * (bytes + 1) ≤ bigN) (a b : SV) :
    ∃ s' h', appS (h ++ [.cells [a, b] true 2]) 2 bytes s 1 [a, b] = some (s', h') ∧ Own2m h0 h' s' (k + 1) c (cs ++ [a, b]) ∧ Ext h0 h' := by
  obtain ⟨id, bl, rfl, h2, h3, h4, h5, h6, h7⟩ := ho
  have hid : id < h.length := (List.getElem?_eq_some_iff.1 h3).1
  have h3' : (h ++ [Blk.cells [a, b] true 2])[id]? = some (.cells bl true 2) := by rw [List.getElem?_append_left hid]; exact h3
  have hsl : (splice bl (0 + k * 2) [a, b]).length = c * 2 := by simp [splice]; omega
  refine ⟨.slc id 0 (k + 1) (some c), (h ++ [Blk.cells [a, b] true 2]).set id (Blk.cells (splice bl (0 + k * 2) [a, b]) true 2), ?_, ⟨id, splice bl (0 + k * 2) [a, b], rfl, h2, List.getElem?_set_self (by simp; omega), hsl, by simp [h5]; omega, ?_, by omega⟩, (he.app _).set h2 _⟩
  · simp only [appS]
    rw [if_neg (by omega), if_pos hb, h3']
    simp only [if_true]
    have hc : cut bl 0 (k * (2 : ESz).n) = some cs := by
      unfold cut
      rw [ez2, if_pos (by omega), List.drop_zero, h6]
    rw [hc]
    simp only []
    rw [if_neg (by omega)]
    simp only [writeN, h3', ez2, Nat.zero_add, List.length_cons, List.length_nil]
    rw [if_pos (by omega)]; rfl
  · simp only [splice, Nat.zero_add]
    rw [h6, List.append_assoc, List.take_append, h5, List.take_of_length_le (by omega), show (k + 1) * 2 - k * 2 = 2 by omega]
    rfl
theorem k_push2m {t k c bytes : Nat} {s a b z0 z1 : SV} {cs z2 : List SV} (he : Ext h0 h) (ho : Own2m h0 h s k c cs) (hk : k < c) (hx : ev E xo = some (.agg [a, b])) (hs : evS (bindE (some t) (some (.sc (.slc h.length 0 1 (some 1)))) E) so = some s) (hb : (k + 1) * (bytes + 1) ≤ bigN)
    (hw : ∀ s' h', Own2m h0 h' s' (k + 1) c (cs ++ [a, b]) → Ext h0 h' → wOps FT HK r (bindE d (some (.sc s')) (bindE (some t) (some (.sc (.slc h.length 0 1 (some 1)))) E)) h' K) :
    wOps FT HK (⟨some t, .bsl 2 [z0, z1] 1 [(0, xo)], none⟩ :: ⟨d, .app 2 bytes z2 so (.t t), none⟩ :: r) E h K := by
  obtain ⟨s', h', h1, h2, h3⟩ := push2m (bytes := bytes) he ho hk hb a b
  refine op_ok (v := some (.sc (.slc h.length 0 1 (some 1)))) (h' := h ++ [.cells [a, b] true 2]) rfl rfl ?_ ?_
  · simp [step1, evParts, hx, AV.cells, fillA, rep, splice, ez2]
  refine op_ok (v := some (.sc s')) (h' := h') rfl rfl ?_ (hw s' h' h2 h3)
  have e1 : evS (bindE (some t) (some (.sc (.slc h.length 0 1 (some 1)))) E) (.t t) = some (.slc h.length 0 1 (some 1)) := by simp [evS, ev, bindE, Env.get]
  have e2 : srcCells (h ++ [Blk.cells [a, b] true 2]) 2 (.slc h.length 0 1 (some 1)) = some (1, [a, b]) := by simp [srcCells, readN, cut]
  simp only [step1, hs, e1, Option.bind_some, ez2, e2, h1, Option.map_some]
/-- A literal of one's own without elements. -/
theorem k_lit0 {z : SV} (hw : ∀ h1, Own h h1 (.slc h.length 0 0 (some 0)) [] → Ext h h1 → wOps FT HK r (bindE d (some (.sc (.slc h.length 0 0 (some 0)))) E) h1 K) : wOps FT HK (⟨d, .bsl 1 [z] 0 [], none⟩ :: r) E h K :=
  op_ok (v := some (.sc (.slc h.length 0 0 (some 0)))) (h' := h ++ [.cells [] true 1]) rfl rfl (by simp [step1, evParts, fillA, rep]) (hw _ (Own.lit0 h) ⟨_, rfl⟩)
end
/-! ### Clone -/
theorem call29 (h0 : Heap) (s : SV) (xs : List Int) (hs : IsInts h0 s xs) (hl : xs.length ≤ 100000) : ∃ v h', Cal FT HKt 29 [.sc s] h0 v h' ∧ Ext h0 h' ∧ ∃ t, v = .sc t ∧ IsInts h' t xs ∧ Fsh h0 t := by
  refine Cal.of (F := a29) rfl rfl rfl ?_
  rcases id hs with ⟨rfl, h1, h2⟩ | ⟨id, off, cap, b, rfl, h1, h2, h3, h4⟩
  · have hx : xs = [] := List.eq_nil_of_length_eq_zero h1
    subst hx
    repeat' (first | refine w_seq ?_ | refine w_seqN ?_ | refine w_seqR ?_ | refine w_ret ?_ | refine w_ops ?_ | ((refine i_cond ?_); refine w_condT rfl ?_) | ((refine i_nil ?_); first | refine w_end1 rfl ?_ | refine w_end2 rfl rfl ?_) | ((refine i_cons ?_); first | refine k_mv rfl ?_ | refine k_ok rfl rfl ?_))
    exact ⟨.inr rfl, Ext.refl _, .nilS, rfl, .inl ⟨rfl, rfl, rfl⟩, fun j _ o n c e => (by cases e)⟩
  · have e1 : Ext h0 (h0 ++ [Blk.cells [] true 1]) := ⟨_, rfl⟩
    have o1 : Own h0 (h0 ++ [Blk.cells [] true 1]) (.slc h0.length 0 0 (some 0)) (ints []) := .inr ⟨h0.length, some 0, [], rfl, Nat.le_refl _, by simp, rfl, rfl, Nat.le_refl _⟩
    have hsrc := IsInts.src (IsSl.ext hs e1)
    repeat' (first | refine w_seq ?_ | refine w_seqN ?_ | refine w_skip ?_ | refine w_ret ?_ | refine w_ops ?_ | ((refine i_cond ?_); refine w_condF rfl ?_) | ((refine i_nil ?_); first | refine w_end1 rfl ?_ | refine w_end2 rfl rfl ?_) | ((refine i_cons ?_); first | (refine k_app e1 o1 rfl rfl hsrc (by simp [ints, bigN]; omega) ?_; intro s1 h2 o2 e2 f2 f3) | refine k_mv rfl ?_ | refine k_ok rfl rfl ?_))
    exact ⟨.inr rfl, e2, s1, rfl, by simpa [ints] using Ab.Own.ids (xs := xs) (by simpa [ints] using o2), fun j hj => notAt_of_le o2 hj⟩

/-- What was pushed lies elsewhere than what lay there. -/
theorem own_fsh {h0 h : Heap} {s : SV} {vs : List SV} (ho : Own h0 h s vs) : Fsh h0 s := fun j hj => notAt_of_le ho hj
theorem isSl_not {h : Heap} {t : SV} {z : ESz} {n : Nat} {ws : List SV} (ht : IsSl h t z n ws) {j : Nat} (hj : h.length ≤ j) : NotAt t j := by
  rcases ht with ⟨rfl, -⟩ | ⟨id, off, cap, b, rfl, h1, -⟩
  · intro o n c e; cases e
  · intro o n c e
    have := (List.getElem?_eq_some_iff.1 h1).1
    cases e; omega
/-! ### How many -/
theorem strs_small {xs ms : List Int} {l : Int} (hF : Front xs ms l) : ∀ L ∈ strs xs ms, L.length ≤ 256 ∧ ∀ g ∈ L, g < ms.length := by
  intro L hL
  unfold strs at hL
  obtain ⟨h, hh, rfl⟩ := List.mem_map.1 hL
  obtain ⟨h1, h2, h3⟩ := starts_mem.1 hh
  obtain ⟨hc, hl⟩ := cyc_is hF.mates hF.inv h1
  have h4 := hF.four
  have h5 := hF.n64
  refine ⟨by omega, fun g hg => ?_⟩
  obtain ⟨j, rfl⟩ := hc.mem.1 hg
  exact hF.mates.pit_lt h1 j
theorem strs_len {xs ms : List Int} {l : Int} (hF : Front xs ms l) : (strs xs ms).length ≤ 256 := by
  unfold strs
  rw [List.length_map]
  have := starts_le xs ms ms.length
  have h4 := hF.four
  have h5 := hF.n64
  omega
theorem flat_small : ∀ {C : List (List Vis)}, (∀ vs ∈ C, vs.length ≤ 256) → C.flatten.length ≤ 256 * C.length
  | [], _ => by simp
  | vs :: C, h => by
    have h1 := h vs (by simp)
    have h2 := flat_small (C := C) fun v hv => h v (by simp [hv])
    rw [List.flatten_cons, List.length_append, List.length_cons]
    omega
/-- The code of a diagram, plainly. -/
noncomputable def codeG (xs ms : List Int) (l : Int) : GC := ⟨codeC (strs xs ms), xs, l⟩
theorem codeG_fits {xs ms : List Int} {l : Int} (hF : Front xs ms l) : GFits (codeG xs ms l) := by
  have h1 := strs_small hF
  have h2 := strs_len hF
  have h3 := hF.n64
  have h4 := hF.four
  have hcl : (codeC (strs xs ms)).length ≤ 256 := by simp [codeC]; exact h2
  have hfl := flat_small (C := codeC (strs xs ms)) fun vs hv => by
    obtain ⟨L, hL, rfl⟩ := List.mem_map.1 hv
    rw [visL_len]; exact (h1 L hL).1
  refine ⟨by simp only [codeG]; omega, by simp only [codeG]; omega, by simp only [codeG]; omega, ?_, fun v hv => ?_⟩
  · have := hF.l0
    have := hF.l64
    simp only [codeG]; omega
  · simp only [codeG] at hv
    obtain ⟨vs, h5, h6⟩ := List.mem_flatten.1 hv
    obtain ⟨L, hL, rfl⟩ := List.mem_map.1 h5
    obtain ⟨x, hx, rfl⟩ := List.mem_map.1 h6
    have := (h1 L hL).2 x hx
    simp only
    omega
end Go.Proofs.YtleoalcbgpjieaaDoor
