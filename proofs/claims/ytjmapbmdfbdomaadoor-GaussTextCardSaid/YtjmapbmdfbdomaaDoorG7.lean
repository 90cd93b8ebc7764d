/- gauss.sequence, slices.Clone: contracts; what lies in memory while Parse reads. -/
import Derived.Test.YtjmapbmdfbdomaaDoorG6
namespace Go.Proofs.YtjmapbmdfbdomaaDoor
open Go.Ab
set_option linter.unusedVariables false
set_option linter.unusedSimpArgs false
set_option maxRecDepth 20000
attribute [local irreducible] wOps wA wSeq wBlk wRound wOpsD

/-! ### sequence -/
theorem call25 (h0 hs : Heap) (s : List UInt8) (sg : SV) (A : List Int) (hl : s.length ≤ 100000) (he : Ext h0 hs) (ho : Own h0 hs sg (ints A)) (hA : AOk A) :
    ∃ v h', Cal FT HKt 25 [.sc (tb s), .sc sg] hs v h' ∧ Ext h0 h' ∧ Fr hs h' sg ∧ match seqL s.length s A [] with
      | some (vs, A') => ∃ t, v = .tup [.sc t, .sc (.bool true)] ∧ Own2 h0 h' t vs.length (vcs vs) ∧ Own h0 h' sg (ints A') ∧ AOk A' ∧ A'.length = A.length ∧ Fsh hs t ∧ Apart sg t ∧ vs.length ≤ s.length
      | none => v = .tup [.sc .nilS, .sc (.bool false)] := by
  refine Cal.of (F := a25) rfl rfl rfl ?_
  have q0 : Sq h0 hs hs sg .nilS A [] := ⟨he, ho, .inl ⟨rfl, rfl, rfl⟩, Fr.refl _ _, (fun j => .inr fun o n c e => (by cases e)), (fun j _ o n c e => (by cases e))⟩
  generalize hR : seqL s.length s A [] = R
  repeat' (first | refine w_seq ?_ | refine w_seqN ?_ | refine w_blk ?_ | refine w_ops ?_ | ((refine i_nil ?_); first | refine w_end2 rfl rfl ?_ | refine w_end3 rfl rfl rfl ?_ | refine w_end4 rfl rfl rfl rfl ?_) | ((refine i_cons ?_); refine k_mv rfl ?_))
  refine w_loop (I25 h0 hs s sg A.length R) (cnt s.length 7) (R25 h0 hs s sg A.length R) ⟨0, s.length, .nilS, A, [], Nat.zero_le _, q0, hA, rfl, by simp, by simpa using hR, Nat.le_refl _, rfl⟩ (round25 h0 hs s sg A.length R hl) ?_
  intro ex E' h' hRR
  cases ex with
  | nm => exact hRR.elim
  | ex z =>
    obtain ⟨rfl, t, A', acc, a, b, c, d, rfl, q, hA', hl', hac, rfl⟩ := hRR
    repeat' (first | refine w_seq ?_ | refine w_seqN ?_ | refine w_blkX ?_ | refine w_ret ?_ | refine w_ops ?_ | ((refine i_nil ?_); refine w_end2 rfl rfl ?_) | ((refine i_cons ?_); refine k_mv rfl ?_))
    exact ⟨.inr rfl, q.e, q.fr, t, rfl, q.w, q.o, hA', hl', q.fs, q.ap, hac⟩
  | rt =>
    obtain ⟨rfl, rfl, t, A', acc, q, -⟩ := hRR
    repeat' (first | refine w_seqR ?_ | refine w_blkR ?_)
    exact ⟨.inr rfl, q.e, q.fr, rfl⟩
theorem seq_rng : ∀ (f : Nat) (s : List UInt8) (A : List Int) (acc vs : List Vis) (A' : List Int), seqL f s A acc = some (vs, A') → (∀ v ∈ acc, 0 ≤ v.1 ∧ v.1 < (A.length : Int)) → ∀ v ∈ vs, 0 ≤ v.1 ∧ v.1 < (A.length : Int)
  | f, [], A, acc, vs, A', h, ha => by
    have : seqL f [] A acc = some (acc, A) := by cases f <;> rfl
    rw [this] at h
    simp only [Option.some.injEq, Prod.mk.injEq] at h
    rw [← h.1]; exact ha
  | 0, k :: r, A, acc, vs, A', h, ha => by cases h
  | f + 1, k :: r, A, acc, vs, A', h, ha => by
    rw [seq_cons] at h
    split at h
    · rename_i n c r' hn hr
      split at h
      · rename_i hc
        have := seq_rng f r' _ _ vs A' h (fun v hv => by
          rw [List.length_set]
          rcases List.mem_append.1 hv with hv | hv
          · exact ha v hv
          · simp only [List.mem_singleton] at hv; subst hv; simp only; omega)
        rw [List.length_set] at this
        exact this
      · cases h
    · cases h

/-! ### Clone -/
theorem call26 (h0 : Heap) (s : SV) (xs : List Int) (hs : IsInts h0 s xs) (hl : xs.length ≤ 100000) : ∃ v h', Cal FT HKt 26 [.sc s] h0 v h' ∧ Ext h0 h' ∧ ∃ t, v = .sc t ∧ IsInts h' t xs ∧ Fsh h0 t := by
  refine Cal.of (F := a26) rfl rfl rfl ?_
  rcases id hs with ⟨rfl, h1, h2⟩ | ⟨id, off, cap, b, rfl, h1, h2, h3, h4⟩
  · have hx : xs = [] := List.eq_nil_of_length_eq_zero h1
    subst hx
    repeat' (first | refine w_seq ?_ | refine w_seqN ?_ | refine w_seqR ?_ | refine w_ret ?_ | refine w_ops ?_ | ((refine i_cond ?_); refine w_condT rfl ?_) | ((refine i_nil ?_); first | refine w_end1 rfl ?_ | refine w_end2 rfl rfl ?_) | ((refine i_cons ?_); first | refine k_mv rfl ?_ | refine k_ok rfl rfl ?_))
    exact ⟨.inr rfl, Ext.refl _, .nilS, rfl, .inl ⟨rfl, rfl, rfl⟩, fun j _ o n c e => (by cases e)⟩
  · have e1 : Ext h0 (h0 ++ [Blk.cells [] true 1]) := ⟨_, rfl⟩
    have o1 : Own h0 (h0 ++ [Blk.cells [] true 1]) (.slc h0.length 0 0 (some 0)) (ints []) := .inr ⟨h0.length, some 0, [], rfl, Nat.le_refl _, by simp, rfl, rfl, Nat.le_refl _⟩
    have hsrc := IsInts.src (IsSl.ext hs e1)
    repeat' (first | refine w_seq ?_ | refine w_seqN ?_ | refine w_skip ?_ | refine w_ret ?_ | refine w_ops ?_ | ((refine i_cond ?_); refine w_condF rfl ?_) | ((refine i_nil ?_); first | refine w_end1 rfl ?_ | refine w_end2 rfl rfl ?_) | ((refine i_cons ?_); first | (refine k_app e1 o1 rfl rfl hsrc (by simp [ints, bigN]; omega) ?_; intro s1 h2 o2 e2 f2 f3) | refine k_mv rfl ?_ | refine k_ok rfl rfl ?_))
    exact ⟨.inr rfl, e2, s1, rfl, by simpa [ints] using Ab.Own.ids (xs := xs) (by simpa [ints] using o2), fun j hj => notAt_of_le o2 hj⟩

/-! ### Cells of three values -/
def Cel3 (h : Heap) (q : Nat) (a b c : SV) : Prop := h[q]? = some (.cells [a, b, c] true 0)
theorem Cel3.lt {h : Heap} {q : Nat} {a b c : SV} (k : Cel3 h q a b c) : q < h.length := (List.getElem?_eq_some_iff.1 k).1
theorem Cel3.ext {h h' : Heap} {q : Nat} {a b c : SV} (k : Cel3 h q a b c) (he : Ext h h') : Cel3 h' q a b c := he.get _ _ k
theorem Cel3.at {h : Heap} {q : Nat} {a b c : SV} (k : Cel3 h q a b c) : Blk.At h q [a, b, c] := ⟨true, 0, k⟩
theorem Cel3.read {h : Heap} {q : Nat} {a b c : SV} (k : Cel3 h q a b c) : readN h q 0 3 = some [a, b, c] := by
  unfold Cel3 at k
  simp [readN, k, cut]
theorem Cel3.wr {h : Heap} {q : Nat} {a b c : SV} (k : Cel3 h q a b c) :
    (∀ x, writeN h q (0 + 0) [x] = some (h.set q (.cells [x, b, c] true 0))) ∧ (∀ x, writeN h q (0 + 1) [x] = some (h.set q (.cells [a, x, c] true 0))) ∧ (∀ x, writeN h q (0 + 2) [x] = some (h.set q (.cells [a, b, x] true 0))) ∧
    (∀ x y z, Cel3 (h.set q (.cells [x, y, z] true 0)) q x y z) := by
  have hq := k.lt
  unfold Cel3 at k
  exact ⟨fun x => by simp [writeN, k, splice], fun x => by simp [writeN, k, splice], fun x => by simp [writeN, k, splice], fun x y z => by simp [Cel3, hq]⟩
section
variable {FT : FuncId → Option AFun} {HK : FuncId → Option Hook} {E : Env} {h : Heap} {K : Env → Heap → Prop} {d : Option Nat} {r : List AOp} {x y : AO}
theorem k_new3 {a b c : SV} (hw : ∀ h1, Ext h h1 → h1.length = h.length + 1 → Cel3 h1 h.length a b c → wOps FT HK r (bindE d (some (.sc (.ptr h.length 0))) E) h1 K) :
    wOps FT HK (⟨d, .new [a, b, c], none⟩ :: r) E h K :=
  op_ok (v := some (.sc (.ptr h.length 0))) (h' := h ++ [.cells [a, b, c] true 0]) rfl rfl rfl (hw _ ⟨_, rfl⟩ (by simp) (by simp [Cel3]))
theorem k_st3 {q : Nat} {a b c u v w : SV} {p : AO} (ha : evS E p = some (.ptr q 0)) (hx : ev E x = some (.agg [a, b, c])) (hc : Cel3 h q u v w)
    (hw : ∀ h1, h1 = h.set q (.cells [a, b, c] true 0) → Cel3 h1 q a b c → wOps FT HK r (bindE d none E) h1 K) : wOps FT HK (⟨d, .st 3 p x, none⟩ :: r) E h K := by
  have hc' : h[q]? = some (.cells [u, v, w] true 0) := hc
  refine op_ok (v := none) (h' := h.set q (.cells [a, b, c] true 0)) rfl rfl ?_ (hw _ rfl (hc.wr.2.2.2 _ _ _))
  simp [step1, ha, hx, AV.cells, writeN, hc', splice]
theorem k_ld3 {q : Nat} {a b c : SV} (hx : evS E x = some (.ptr q 0)) (hc : Cel3 h q a b c) (hw : wOps FT HK r (bindE d (some (.agg [a, b, c])) E) h K) : wOps FT HK (⟨d, .ld 3 true x, none⟩ :: r) E h K := k_ldA hx hc.at rfl hw
end

/-! ### While Parse reads -/
structure Pq (h0 H h : Heap) (qc : Nat) (sg X : SV) (A : List Int) (C : List (List Vis)) (L : Int) : Prop where
  e : Ext h0 h
  len : H.length ≤ h.length
  kp : ∀ (j : Nat) (b : Blk), H[j]? = some b → j ≠ qc → NotAt sg j → h[j]? = some b
  c : Cel3 h qc X .nilS (.int .i64 L)
  o : Own h0 h sg (ints A)
  x : ∃ ss, ss.length = C.length ∧ Own h0 h X ss ∧ ∀ (i : Nat) (t : SV) (vs : List Vis), ss[i]? = some t → C[i]? = some vs → IsVis h t vs ∧ Apart X t ∧ Fsh H t
  xf : Fsh H X
structure PS (h0 H : Heap) (qc : Nat) (sg : SV) : Prop where
  q0 : h0.length ≤ qc
  q1 : qc < H.length
  s1 : ∀ j, H.length ≤ j → NotAt sg j
  s2 : NotAt sg qc
theorem PS.ap {h0 H : Heap} {qc : Nat} {sg t : SV} (p : PS h0 H qc sg) (h : Fsh H t) : Apart sg t := fun j => by
  rcases Nat.lt_or_ge j H.length with hj | hj
  · exact .inr (h j hj)
  · exact .inl (p.s1 j hj)
theorem own_set {h0 h : Heap} {s : SV} {vs : List SV} {B : Nat} (ho : Own h0 h s vs) (hn : NotAt s B) (b : Blk) : Own h0 (h.set B b) s vs := by
  rcases ho with ho | ⟨id, cap, cs, rfl, h1, h2, h3, h4⟩
  · exact .inl ho
  · exact .inr ⟨id, cap, cs, rfl, h1, by rw [List.getElem?_set_ne (fun e => by subst e; exact hn _ _ _ rfl)]; exact h2, h3, h4⟩
theorem vis_set {h : Heap} {t : SV} {vs : List Vis} {B : Nat} (hv : IsVis h t vs) (hn : NotAt t B) (b : Blk) : IsVis (h.set B b) t vs :=
  IsSl.keep hv fun j x hj hx => by rw [List.getElem?_set_ne (fun e => by subst e; exact hx hn)]; exact hj
/-- The code's cell was written. -/
theorem Pq.cell {h0 H h : Heap} {qc : Nat} {sg X : SV} {A : List Int} {C : List (List Vis)} {L : Int} (p : PS h0 H qc sg) (s : Pq h0 H h qc sg X A C L) (L' : Int) : Pq h0 H (h.set qc (.cells [X, .nilS, .int .i64 L'] true 0)) qc sg X A C L' := by
  obtain ⟨ss, x1, x2, x3⟩ := s.x
  refine ⟨s.e.set p.q0 _, by rw [List.length_set]; exact s.len, fun j b h1 h2 h3 => by rw [List.getElem?_set_ne (fun e => h2 e.symm)]; exact s.kp j b h1 h2 h3, s.c.wr.2.2.2 _ _ _, own_set s.o p.s2 _, ⟨ss, x1, own_set x2 (s.xf _ p.q1) _, fun i t vs a b => ?_⟩, s.xf⟩
  obtain ⟨v1, v2, v3⟩ := x3 i t vs a b
  exact ⟨vis_set v1 (v3 _ p.q1) _, v2, v3⟩
theorem own_fr {h0 h h' : Heap} {s t : SV} {vs : List SV} (ho : Own h0 h t vs) (f : Fr h h' s) (ha : Apart s t) : Own h0 h' t vs := by
  rcases ho with ho | ⟨id, cap, cs, rfl, h1, h2, h3, h4⟩
  · exact .inl ho
  · refine .inr ⟨id, cap, cs, rfl, h1, f.kp _ _ h2 ?_, h3, h4⟩
    rcases ha id with h | h
    · exact h
    · exact absurd rfl (h _ _ _)
theorem vis_fr {h h' : Heap} {s t : SV} {vs : List Vis} (hv : IsVis h t vs) (f : Fr h h' s) (ha : Apart s t) : IsVis h' t vs :=
  IsSl.keep hv fun j x hj hx => f.kp j x hj (by
    rcases ha j with h | h
    · exact h
    · exact absurd h hx)
/-- sequence was called. -/
theorem Pq.seq {h0 H h h' : Heap} {qc : Nat} {sg X : SV} {A A' : List Int} {C : List (List Vis)} {L : Int} (p : PS h0 H qc sg) (s : Pq h0 H h qc sg X A C L) (he : Ext h0 h') (f : Fr h h' sg) (o : Own h0 h' sg (ints A')) : Pq h0 H h' qc sg X A' C L := by
  obtain ⟨ss, x1, x2, x3⟩ := s.x
  refine ⟨he, Nat.le_trans s.len f.len, fun j b h1 h2 h3 => f.kp j b (s.kp j b h1 h2 h3) h3, f.kp _ _ s.c p.s2, o, ⟨ss, x1, own_fr x2 f (p.ap s.xf), fun i t vs a b => ?_⟩, s.xf⟩
  obtain ⟨v1, v2, v3⟩ := x3 i t vs a b
  exact ⟨vis_fr v1 f (p.ap v3), v2, v3⟩
theorem Own2.vis {h0 h : Heap} {t : SV} {vs : List Vis} (ho : Own2 h0 h t vs.length (vcs vs)) : IsVis h t vs := by
  rcases ho with ⟨rfl, h1, h2⟩ | ⟨id, rfl, h2, h3, h4, h5⟩
  · exact .inl ⟨rfl, h1, h2⟩
  · refine .inr ⟨id, 0, none, _, rfl, h3, rfl, fun h0 => by omega, fun _ => ⟨_, true, rfl, ?_⟩⟩
    unfold cut
    simp only [ez2]
    rw [if_pos (by omega), List.drop_zero, List.take_of_length_le (by omega)]
theorem apart_new {h0 h : Heap} {X t : SV} {ss : List SV} (hX : Own h0 h X ss) (ht : Fsh h t) : Apart X t := fun j => by
  rcases hX with ⟨rfl, -⟩ | ⟨id, cap, cs, rfl, -, h2, -⟩
  · exact .inl fun o n c e => by cases e
  · by_cases hj : j = id
    · subst hj
      exact .inr (ht j (List.getElem?_eq_some_iff.1 h2).1)
    · exact .inl fun o n c e => hj (by cases e; rfl)
/-- A component was pushed, and the slice put into the cell. -/
theorem Pq.push {h0 H h h2 h3 : Heap} {qc : Nat} {sg X X' t : SV} {A A' : List Int} {C : List (List Vis)} {L : Int} {vs : List Vis} {ss : List SV} (p : PS h0 H qc sg) (s : Pq h0 H h2 qc sg X A' C L)
    (x1 : ss.length = C.length) (x2 : Own h0 h2 X ss) (x3 : ∀ (i : Nat) (t : SV) (vs : List Vis), ss[i]? = some t → C[i]? = some vs → IsVis h2 t vs ∧ Apart X t ∧ Fsh H t) (hl : H.length ≤ h.length)
    (ht : Own2 h0 h2 t vs.length (vcs vs)) (hf : Fsh h t) (hat : Apart X t) (o3 : Own h0 h3 X' (ss ++ [t])) (e3 : Ext h0 h3) (f3 : Fram h2 h3 X X') (l3 : h2.length ≤ h3.length) :
    Pq h0 H (h3.set qc (.cells [X', .nilS, .int .i64 L] true 0)) qc sg X' A' (C ++ [vs]) L := by
  have hfH : Fsh H t := fun j hj => hf j (Nat.lt_of_lt_of_le hj hl)
  have xf' : Fsh H X' := fun j hj => by
    have hj2 : j < h2.length := Nat.lt_of_lt_of_le hj s.len
    exact (f3 j _ (List.getElem?_eq_getElem hj2) (s.xf j hj)).2
  have c3 : Cel3 h3 qc X .nilS (.int .i64 L) := (f3 _ _ s.c (s.xf _ p.q1)).1
  have q : Pq h0 H h3 qc sg X A' C L → True := fun _ => trivial
  refine ⟨e3.set p.q0 _, by rw [List.length_set]; exact Nat.le_trans s.len l3, fun j b h1 h2 h3' => ?_, c3.wr.2.2.2 _ _ _, own_set (Own.away s.o f3 (p.ap s.xf).symm) p.s2 _, ⟨ss ++ [t], by simp [x1], own_set o3 (xf' _ p.q1) _, fun i u us a b => ?_⟩, xf'⟩
  · rw [List.getElem?_set_ne (fun e => h2 e.symm)]
    exact (f3 j b (s.kp j b h1 h2 h3') (s.xf j (List.getElem?_eq_some_iff.1 h1).1)).1
  · rcases Nat.lt_or_ge i ss.length with hi | hi
    · rw [List.getElem?_append_left hi] at a
      rw [List.getElem?_append_left (by omega)] at b
      obtain ⟨v1, v2, v3⟩ := x3 i u us a b
      exact ⟨vis_set (IsSl.away v1 f3 v2) (v3 _ p.q1) _, Fram.apart f3 v1 v2, v3⟩
    · rw [List.getElem?_append_right hi] at a
      rw [List.getElem?_append_right (by omega), ← x1] at b
      have h0' : i - ss.length = 0 := by
        have := (List.getElem?_eq_some_iff.1 a).1
        simp at this; omega
      rw [h0'] at a b
      simp only [List.getElem?_cons_zero, Option.some.injEq] at a b
      subst a b
      have v1 := Own2.vis ht
      exact ⟨vis_set (IsSl.away v1 f3 hat) (hfH _ p.q1) _, Fram.apart f3 v1 hat, hfH⟩

/-! ### The signs' end -/
theorem trim_snoc (l : List Int) (x : Int) : trimZ (l ++ [x]) = if x = 0 then trimZ l else l ++ [x] := by
  unfold trimZ
  rw [List.reverse_append, List.reverse_singleton, List.singleton_append, List.dropWhile_cons]
  by_cases h : x = 0
  · rw [if_pos (by simpa using h), if_pos h]
  · rw [if_neg (by simpa using h), if_neg h]
    simp
end Go.Proofs.YtjmapbmdfbdomaaDoor
