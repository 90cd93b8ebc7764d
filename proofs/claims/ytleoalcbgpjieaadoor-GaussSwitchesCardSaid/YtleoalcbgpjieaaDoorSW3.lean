/- The law GaussSwitches: all sequences. -/
import Derived.Test.YtleoalcbgpjieaaDoorSW2
import Derived.Test.YtleoalcbgpjieaaDoorSH2
namespace Go.Proofs.YtleoalcbgpjieaaDoor
open Go.Ab
set_option linter.unusedVariables false
set_option linter.unusedSimpArgs false
set_option maxRecDepth 20000
set_option maxHeartbeats 4000000
attribute [local irreducible] wOps wA wSeq wBlk wRound wRoundI wOpsD wOpsS

/-- Two codes that are being made, side by side. -/
structure Qo (h0 H h : Heap) (q8 q9 : Nat) (X1 S1 X2 S2 : SV) (l : Int) (C1 C2 : List (List Vis)) : Prop where
  e : Ext h0 h
  len : H.length ≤ h.length
  kp : ∀ (j : Nat) (b : Blk), H[j]? = some b → j ≠ q8 → j ≠ q9 → h[j]? = some b
  c8 : Cel3 h q8 X1 S1 (.int .i64 l)
  c9 : Cel3 h q9 X2 S2 (.int .i64 l)
  x1 : ∃ ss, ss.length = C1.length ∧ Own h0 h X1 ss ∧ ∀ (i : Nat) (t : SV) (vs : List Vis), ss[i]? = some t → C1[i]? = some vs → IsVis h t vs ∧ Ab.Apart X1 t ∧ Ab.Apart X2 t ∧ Fsh H t
  x2 : ∃ ss, ss.length = C2.length ∧ Own h0 h X2 ss ∧ ∀ (i : Nat) (t : SV) (vs : List Vis), ss[i]? = some t → C2[i]? = some vs → IsVis h t vs ∧ Ab.Apart X1 t ∧ Ab.Apart X2 t ∧ Fsh H t
  f1 : Fsh H X1
  f2 : Fsh H X2
  ap : Ab.Apart X1 X2
theorem Qo.ext {h0 H h h' : Heap} {q8 q9 : Nat} {X1 S1 X2 S2 : SV} {l : Int} {C1 C2 : List (List Vis)} (s : Qo h0 H h q8 q9 X1 S1 X2 S2 l C1 C2) (e : Ext h h') : Qo h0 H h' q8 q9 X1 S1 X2 S2 l C1 C2 := by
  obtain ⟨ss, a1, a2, a3⟩ := s.x1
  obtain ⟨zs, b1, b2, b3⟩ := s.x2
  exact ⟨s.e.trans e, Nat.le_trans s.len e.len, fun j b h1 h2 h3 => e.get _ _ (s.kp j b h1 h2 h3), s.c8.ext e, s.c9.ext e, ⟨ss, a1, a2.ext e, fun i t vs h1 h2 => ⟨(a3 i t vs h1 h2).1.ext e, (a3 i t vs h1 h2).2⟩⟩, ⟨zs, b1, b2.ext e, fun i t vs h1 h2 => ⟨(b3 i t vs h1 h2).1.ext e, (b3 i t vs h1 h2).2⟩⟩, s.f1, s.f2, s.ap⟩
/-- What is known of a sequence, carried on past both appends. -/
theorem vis_past {H hB h3 h4 : Heap} {q8 q9 : Nat} {X1 X1' X2 X2' t : SV} {vs : List Vis} {c8 c9 : Blk} (q1 : q8 < H.length) (q2 : q9 < H.length) (f3 : Fram hB h3 X1 X1') (f4 : Fram h3 h4 X2 X2') (hv : IsVis hB t vs) (a1 : Ab.Apart X1 t) (a2 : Ab.Apart X2 t) (hf : Fsh H t) :
    IsVis ((h4.set q8 c8).set q9 c9) t vs ∧ Ab.Apart X1' t ∧ Ab.Apart X2' t ∧ Fsh H t := by
  have v3 := IsSl.away hv f3 a1
  have v4 := IsSl.away v3 f4 a2
  exact ⟨vis_set (vis_set v4 (hf _ q1) _) (hf _ q2) _, Fram.apart f3 hv a1, Fram.apart f4 v3 a2, hf⟩
theorem Qo.push {h0 H h2 hB h3 h4 : Heap} {q8 q9 : Nat} {X1 S1 X2 S2 X1' X2' u w : SV} {l : Int} {C1 C2 : List (List Vis)} {A B : List Vis} {ss zs : List SV} (p8 : h0.length ≤ q8) (p9 : h0.length ≤ q9) (q1 : q8 < H.length) (q2 : q9 < H.length) (hq : q8 ≠ q9)
    (s : Qo h0 H h2 q8 q9 X1 S1 X2 S2 l C1 C2) (eB : Ext h2 hB)
    (x1 : ss.length = C1.length) (x3 : ∀ (i : Nat) (t : SV) (vs : List Vis), ss[i]? = some t → C1[i]? = some vs → IsVis h2 t vs ∧ Ab.Apart X1 t ∧ Ab.Apart X2 t ∧ Fsh H t)
    (y1 : zs.length = C2.length) (y2 : Own h0 h2 X2 zs) (y3 : ∀ (i : Nat) (t : SV) (vs : List Vis), zs[i]? = some t → C2[i]? = some vs → IsVis h2 t vs ∧ Ab.Apart X1 t ∧ Ab.Apart X2 t ∧ Fsh H t)
    (vu : IsVis h2 u A) (ua1 : Ab.Apart X1 u) (ua2 : Ab.Apart X2 u) (uf : Fsh H u) (vw : IsVis h2 w B) (wa1 : Ab.Apart X1 w) (wa2 : Ab.Apart X2 w) (wf : Fsh H w)
    (o3 : Own h0 h3 X1' (ss ++ [u])) (f3 : Fram hB h3 X1 X1') (o4 : Own h0 h4 X2' (zs ++ [w])) (e4 : Ext h0 h4) (f4 : Fram h3 h4 X2 X2') (l4 : hB.length ≤ h4.length) :
    Qo h0 H ((h4.set q8 (.cells [X1', S1, .int .i64 l] true 0)).set q9 (.cells [X2', S2, .int .i64 l] true 0)) q8 q9 X1' S1 X2' S2 l (C1 ++ [A]) (C2 ++ [B]) := by
  have hl2 := s.len
  have hlB := eB.len
  have g : ∀ (j : Nat) (b : Blk), hB[j]? = some b → NotAt X1 j → NotAt X2 j → h4[j]? = some b ∧ NotAt X1' j ∧ NotAt X2' j := fun j b hb n1 n2 => by
    obtain ⟨k1, k2⟩ := f3 j b hb n1
    obtain ⟨k3, k4⟩ := f4 j b k1 n2
    exact ⟨k3, k2, k4⟩
  have low : ∀ j, j < H.length → NotAt X1' j ∧ NotAt X2' j := fun j hj => by
    have hjB : j < hB.length := by omega
    exact (g j _ (List.getElem?_eq_getElem hjB) (s.f1 j hj) (s.f2 j hj)).2
  have c8 : Cel3 h4 q8 X1 S1 (.int .i64 l) := (g _ _ (eB.get _ _ s.c8) (s.f1 _ q1) (s.f2 _ q1)).1
  have c9 : Cel3 h4 q9 X2 S2 (.int .i64 l) := (g _ _ (eB.get _ _ s.c9) (s.f1 _ q2) (s.f2 _ q2)).1
  have ap3 : Ab.Apart X1' X2 := Fram.apart f3 (y2.ext eB).sl s.ap
  have y2B := (y2.ext eB)
  have o3' : Own h0 h4 X1' (ss ++ [u]) := Ab.Own.away o3 f4 ap3.symm
  have ap4 : Ab.Apart X1' X2' := (Fram.apart f4 o3.sl ap3.symm).symm
  refine ⟨(e4.set p8 _).set p9 _, by simp only [List.length_set]; omega, fun j b h1 n8 n9 => ?_, ?_, ?_, ⟨ss ++ [u], by simp [x1], own_set (own_set o3' (low _ q1).1 _) (low _ q2).1 _, fun i t vs a b => ?_⟩, ⟨zs ++ [w], by simp [y1], own_set (own_set o4 (low _ q1).2 _) (low _ q2).2 _, fun i t vs a b => ?_⟩, fun j hj => (low j hj).1, fun j hj => (low j hj).2, ap4⟩
  · have hj := (List.getElem?_eq_some_iff.1 h1).1
    rw [List.getElem?_set_ne (fun e => n9 e.symm), List.getElem?_set_ne (fun e => n8 e.symm)]
    exact (g j b (eB.get _ _ (s.kp j b h1 n8 n9)) (s.f1 j hj) (s.f2 j hj)).1
  · unfold Cel3
    rw [List.getElem?_set_ne (Ne.symm hq)]
    exact c8.wr.2.2.2 _ _ _
  · have c9' : Cel3 (h4.set q8 (.cells [X1', S1, .int .i64 l] true 0)) q9 X2 S2 (.int .i64 l) := by
      unfold Cel3
      rw [List.getElem?_set_ne hq]; exact c9
    exact c9'.wr.2.2.2 _ _ _
  · rcases Nat.lt_or_ge i ss.length with hi | hi
    · rw [List.getElem?_append_left hi] at a
      rw [List.getElem?_append_left (by omega)] at b
      obtain ⟨v1, v2, v3, v4⟩ := x3 i t vs a b
      exact vis_past q1 q2 f3 f4 (v1.ext eB) v2 v3 v4
    · rw [List.getElem?_append_right hi] at a
      rw [List.getElem?_append_right (by omega), ← x1] at b
      have h0' : i - ss.length = 0 := by
        have := (List.getElem?_eq_some_iff.1 a).1
        simp at this; omega
      rw [h0'] at a b
      simp only [List.getElem?_cons_zero, Option.some.injEq] at a b
      subst a b
      exact vis_past q1 q2 f3 f4 (vu.ext eB) ua1 ua2 uf
  · rcases Nat.lt_or_ge i zs.length with hi | hi
    · rw [List.getElem?_append_left hi] at a
      rw [List.getElem?_append_left (by omega)] at b
      obtain ⟨v1, v2, v3, v4⟩ := y3 i t vs a b
      exact vis_past q1 q2 f3 f4 (v1.ext eB) v2 v3 v4
    · rw [List.getElem?_append_right hi] at a
      rw [List.getElem?_append_right (by omega), ← y1] at b
      have h0' : i - zs.length = 0 := by
        have := (List.getElem?_eq_some_iff.1 a).1
        simp at this; omega
      rw [h0'] at a b
      simp only [List.getElem?_cons_zero, Option.some.injEq] at a b
      subst a b
      exact vis_past q1 q2 f3 f4 (vw.ext eB) wa1 wa2 wf
def I4c (h0 H : Heap) (q8 q9 : Nat) (S1 S2 : SV) (G Er : Int) (x : Nat) (X : SV) (g : GC) (E : Env) (h : Heap) : Prop := ∃ (i : Nat) (X1 X2 : SV), i ≤ g.C.length ∧ Qo h0 H h q8 q9 X1 S1 X2 S2 g.L ((g.C.take i).map (List.map (swV x))) ((g.C.take i).map List.reverse) ∧
  E.keep [5, 6, 7, 8, 9, 73, 74, 75] = [(5, some (.sc (.int .i64 G))), (6, some (.sc (.int .i64 Er))), (7, some (.sc (.int .i64 (x : Nat)))), (8, some (.sc (.ptr q8 0))), (9, some (.sc (.ptr q9 0))), (73, some (.sc X)), (74, some (.sc (.int .i64 (g.C.length : Nat)))), (75, some (.sc (.int .i64 (i : Nat))))]
def R4c (h0 H : Heap) (q8 q9 : Nat) (S1 S2 : SV) (G Er : Int) (x : Nat) (g : GC) (ex : Ex) (E : Env) (h : Heap) : Prop := ex = .ex 0 ∧ ∃ (X1 X2 : SV) (a b c d e : Option AV), Qo h0 H h q8 q9 X1 S1 X2 S2 g.L (g.C.map (List.map (swV x))) (g.C.map List.reverse) ∧
  E = [(5, some (.sc (.int .i64 G))), (6, some (.sc (.int .i64 Er))), (7, a), (8, some (.sc (.ptr q8 0))), (9, some (.sc (.ptr q9 0))), (73, b), (74, c), (75, d), (76, e)]
theorem round4c (h0 H : Heap) (q8 q9 : Nat) (S1 S2 : SV) (G Er : Int) (x : Nat) (X : SV) (g : GC) (hf : GFits g) (hX : IsComps h0 X g.C) (hxl : x ≤ 1000000) (p8 : h0.length ≤ q8) (p9 : h0.length ≤ q9) (q1 : q8 < H.length) (q2 : q9 < H.length) (hq : q8 ≠ q9) (E : Env) (h : Heap) (hI : I4c h0 H q8 q9 S1 S2 G Er x X g E h) :
    wA FT HKt b4L0 (E.keep [5, 6, 7, 8, 9, 73, 74, 75]) h (wRound (I4c h0 H q8 q9 S1 S2 G Er x X g) (cKK [5, 6, 7, 8, 9, 73, 74, 75] g.C.length 75) (cKK [5, 6, 7, 8, 9, 73, 74, 75] g.C.length 75 E h) (R4c h0 H q8 q9 S1 S2 G Er x g)) := by
  obtain ⟨i, X1, X2, hi, st, hE⟩ := hI
  have hm : cKK [5, 6, 7, 8, 9, 73, 74, 75] g.C.length 75 E h = g.C.length - i := by unfold cKK; rw [hE]; rfl
  rw [hm, hE]
  have hcl := hf.c
  by_cases hlt : i < g.C.length
  · obtain ⟨vs, hx⟩ : ∃ vs, g.C[i]? = some vs := ⟨_, List.getElem?_eq_getElem hlt⟩
    obtain ⟨id, off, cap, t, rfl, hrd, it⟩ := hX.at hx
    have hrd' := readN_ext st.e hrd
    have it' := it.ext st.e
    have lt := it'.len
    have en1 : (g.C.take (i + 1)).map (List.map (swV x)) = (g.C.take i).map (List.map (swV x)) ++ [vs.map (swV x)] := by rw [take_snoc hx, List.map_append]; rfl
    have en2 : (g.C.take (i + 1)).map List.reverse = (g.C.take i).map List.reverse ++ [vs.reverse] := by rw [take_snoc hx, List.map_append]; rfl
    have hvl : vs.length ≤ 1000000 := by
      have h1 := flat_snoc hx
      have h2 := flat_le (C := g.C) (i + 1)
      rw [h1, List.length_append] at h2
      have := hf.v
      omega
    repeat' (first | refine w_seq ?_ | refine w_seqN ?_ | refine w_blk ?_ | refine w_skip ?_ | refine w_ops ?_ | ((refine i_cond ?_); refine w_condT rfl ?_) | ((refine i_nil ?_); first | refine w_end9 rfl rfl rfl rfl rfl rfl rfl rfl rfl ?_ | refine w_end11 rfl rfl rfl rfl rfl rfl rfl rfl rfl rfl rfl ?_ | refine w_end14 rfl rfl rfl rfl rfl rfl rfl rfl rfl rfl rfl rfl rfl rfl ?_) | ((refine i_cons ?_); first | refine k_idxA (esz := 1) rfl rfl (by omega) ?_ | refine k_ld rfl hrd' ?_ | refine k_len rfl lt ?_ | refine k_mv rfl ?_ | refine k_lssT rfl rfl (by omega) ?_))
    refine w_loop (I4v h q8 q9 G Er x g.C.length i (.slc id off g.C.length cap) t vs) (cKK [5, 6, 7, 8, 9, 11, 12, 13, 73, 74, 75, 79, 80, 81] vs.length 81) (R4v h q8 q9 G Er x g.C.length i (.slc id off g.C.length cap) vs) ⟨0, .nilS, .nilS, Nat.zero_le _, Ext.refl _, .inl ⟨rfl, rfl, rfl⟩, .inl ⟨rfl, rfl, rfl⟩, (fun j => .inl fun o n c e => by cases e), rfl⟩ (round4v h q8 q9 G Er x g.C.length i _ t vs it' hvl ⟨hcl, by omega, hxl⟩) ?_
    rintro ex E' h2 ⟨rfl, e2, u, w, a, b, c, d, e, ou, ow, apu, rfl⟩
    have s2 := st.ext e2
    obtain ⟨ss, x1, x2, x3⟩ := s2.x1
    obtain ⟨zs, y1, y2, y3⟩ := s2.x2
    have ou' : Own2 h h2 u (vs.map (swV x)).length (vcs (vs.map (swV x))) := by rw [List.length_map]; exact ou
    have ow' : Own2 h h2 w vs.reverse.length (vcs vs.reverse) := by rw [List.length_reverse]; exact ow
    have uf := Own2.fsh ou'
    have wf := Own2.fsh ow'
    have o1 : ∃ ss', Own h0 h X1 ss' := by obtain ⟨ss', _, k, _⟩ := st.x1; exact ⟨_, k⟩
    have o2 : ∃ ss', Own h0 h X2 ss' := by obtain ⟨ss', _, k, _⟩ := st.x2; exact ⟨_, k⟩
    obtain ⟨_, o1⟩ := o1
    obtain ⟨_, o2⟩ := o2
    have b8 : Blk.At h2 q8 [X1, S1, .int .i64 g.L] := s2.c8.at
    have b9 : Blk.At h2 q9 [X2, S2, .int .i64 g.L] := s2.c9.at
    have l2 := s2.len
    have q82 : q8 < h2.length := by omega
    have q92 : q9 < h2.length := by omega
    have hss : ss.length = i := by rw [x1]; simp; omega
    have hzs : zs.length = i := by rw [y1]; simp; omega
    repeat (first | refine w_seqN ?_ | refine w_blkX ?_ | refine w_blkN ?_ | refine w_seq ?_)
    have no : ∀ {ord : Bool} {k : AK} (E : Env) (id : Nat), ldX E ord k = some id → ldX E ord k = none → id ∈ [q8, q9] := fun E id h1 h2 => by rw [h2] at h1; cases h1
    have in8 : q8 ∈ [q8, q9] := by simp
    have in9 : q9 ∈ [q8, q9] := by simp
    have lowS : ∀ h' : Heap, h2.length ≤ h'.length → ∀ id ∈ [q8, q9], id < h'.length := fun h' hl id hid => by
      simp only [List.mem_cons, List.not_mem_nil, or_false] at hid
      rcases hid with rfl | rfl <;> omega
    refine w_opsSA [q8, q9] [h2.length + 1] ?_
    refine s_one (fun id h => no _ id h rfl) (k_fldA rfl (s_same ?_))
    refine s_one (fun id h => by cases h; exact in8) (k_ldb rfl b8 rfl (s_same ?_))
    refine s_one (fun id h => no _ id h rfl) (k_mv rfl (s_same ?_))
    refine s_one (fun id h => no _ id h rfl) (k_bsl1 rfl (s_grow ⟨_, rfl⟩ (lowS _ (Nat.le_refl _)) ?_))
    have b9a := b9.ext (⟨_, rfl⟩ : Ext h2 (h2 ++ [Blk.cells [u] true 1]))
    refine s_one (fun id h => no _ id h rfl) (k_fldA rfl (s_same ?_))
    refine s_one (fun id h => by cases h; exact in9) (k_ldb rfl b9a rfl (s_same ?_))
    refine s_one (fun id h => no _ id h rfl) (k_mv rfl (s_same ?_))
    refine s_one (fun id h => no _ id h rfl) (k_bsl1 rfl (s_al ⟨_, rfl⟩ (lowS _ (by simp)) (fun id i1 i2 => by simp at i1 i2 ⊢; omega) ?_))
    have lB1 : (h2 ++ [Blk.cells [u] true 1]).length = h2.length + 1 := by simp
    rw [lB1]
    generalize hBe : h2 ++ [Blk.cells [u] true 1] ++ [Blk.cells [w] true 1] = hB
    have eB : Ext h2 hB := by rw [← hBe, List.append_assoc]; exact ⟨_, rfl⟩
    have lB : hB.length = h2.length + 2 := by rw [← hBe]; simp
    have eB0 := s2.e.trans eB
    have gu : hB[h2.length]? = some (Blk.cells [u] true 1) := by rw [← hBe, List.getElem?_append_left (by simp), List.getElem?_append_right (Nat.le_refl _)]; simp
    have gw : hB[h2.length + 1]? = some (Blk.cells [w] true 1) := by rw [← hBe, List.getElem?_append_right (by simp)]; simp
    have sr1 : srcCells hB 1 (.slc h2.length 0 1 (some 1)) = some ([u].length, [u]) := by simp [srcCells, readN, gu, cut]
    have n1 : NotAt X1 (h2.length + 1) := isSl_not o1.sl (by have := e2.len; omega)
    have n2 : NotAt X2 (h2.length + 1) := isSl_not o2.sl (by have := e2.len; omega)
    refine s_one (fun id h => no _ id h rfl) (k_app eB0 (x2.ext eB) rfl rfl sr1 (by simp only [bigN, List.length_cons, List.length_nil]; omega) ?_)
    intro X1' h3 o3 e3 l3 f3
    have kp3 : ∀ (j : Nat) (b : Blk), hB[j]? = some b → NotAt X1 j → h3[j]? = some b := fun j b hj hn => (f3 j b hj hn).1
    refine s_ord (fun id hid => ?_) ?_ (fun id hid _ => ?_)
    · have hid' := lowS hB (by omega) id hid
      have hidH : id < H.length := by
        simp only [List.mem_cons, List.not_mem_nil, or_false] at hid
        rcases hid with rfl | rfl <;> assumption
      rw [List.getElem?_eq_getElem hid']
      exact kp3 _ _ (List.getElem?_eq_getElem hid') (s2.f1 _ hidH)
    · have gw3 : h3[h2.length + 1]? = some (Blk.cells [w] true 1) := kp3 _ _ gw n1
      have sr2 : srcCells h3 1 (.slc (h2.length + 1) 0 1 (some 1)) = some ([w].length, [w]) := by simp [srcCells, readN, gw3, cut]
      have y23 : Own h0 h3 X2 zs := Ab.Own.away (y2.ext eB) f3 s2.ap
      refine s_one (fun id h => no _ id h rfl) (k_fldA rfl (s_same ?_))
      refine s_one (fun id h => no _ id h rfl) (k_app e3 y23 rfl rfl sr2 (by simp only [bigN, List.length_cons, List.length_nil]; omega) ?_)
      intro X2' h4 o4 e4 l4 f4
      refine s_free rfl ?_
      have c84 : Cel3 h4 q8 X1 S1 (.int .i64 g.L) := (f4 _ _ (kp3 _ _ (eB.get _ _ s2.c8) (s2.f1 _ q1)) (s2.f2 _ q1)).1
      have c94 : Cel3 h4 q9 X2 S2 (.int .i64 g.L) := (f4 _ _ (kp3 _ _ (eB.get _ _ s2.c9) (s2.f1 _ q2)) (s2.f2 _ q2)).1
      have w1 := c84.wr.1 X1'
      have c95 : Cel3 (h4.set q8 (.cells [X1', S1, .int .i64 g.L] true 0)) q9 X2 S2 (.int .i64 g.L) := by
        unfold Cel3
        rw [List.getElem?_set_ne hq]; exact c94
      have w2 := c95.wr.1 X2'
      refine s_one (fun id h => no _ id h rfl) (k_st rfl rfl w1 (s_free rfl ?_))
      refine s_one (fun id h => no _ id h rfl) (k_fldA rfl (s_same ?_))
      refine s_one (fun id h => no _ id h rfl) (k_st rfl rfl w2 (s_free rfl ?_))
      refine s_nil ?_
      have uH : Fsh H u := fun j hj => uf j (Nat.lt_of_lt_of_le hj st.len)
      have wH : Fsh H w := fun j hj => wf j (Nat.lt_of_lt_of_le hj st.len)
      have s6 := Qo.push p8 p9 q1 q2 hq s2 eB x1 x3 y1 y2 y3 (Own2.vis ou') (apart_new o1 uf) (apart_new o2 uf) uH (Own2.vis ow') (apart_new o1 wf) (apart_new o2 wf) wH o3 f3 o4 e4 f4 (by omega)
      rw [← en1, ← en2] at s6
      generalize (h4.set q8 (Blk.cells [X1', S1, SV.int IntKind.i64 g.L] true 0)).set q9 (Blk.cells [X2', S2, SV.int IntKind.i64 g.L] true 0) = h6 at *
      repeat' (first | refine w_seqN ?_ | refine w_blkN ?_ | refine w_ops ?_ | ((refine i_nil ?_); refine w_end8 rfl rfl rfl rfl rfl rfl rfl rfl ?_) | ((refine i_cons ?_); first | refine k_mv rfl ?_ | refine k_add rfl rfl (by omega) ?_))
      exact w_roundN ⟨i + 1, X1', X2', by omega, s6, rfl⟩ (by simp [cKK, Env.keep, Env.get]; omega)
    · have hid' : id = h2.length + 1 := by simpa using hid
      subst hid'
      rw [gw]
      exact kp3 _ _ gw n1
  · have hie : i = g.C.length := by omega
    subst hie
    rw [List.take_length] at st
    repeat' (first | refine w_seq ?_ | refine w_seqN ?_ | refine w_seqX ?_ | refine w_exit ?_ | refine w_ops ?_ | ((refine i_cond ?_); refine w_condF rfl ?_) | ((refine i_nil ?_); refine w_end9 rfl rfl rfl rfl rfl rfl rfl rfl rfl ?_) | ((refine i_cons ?_); refine k_lssF rfl rfl (by omega) ?_))
    exact w_roundX ⟨rfl, X1, X2, _, _, _, _, _, st, rfl⟩
end Go.Proofs.YtleoalcbgpjieaaDoor
