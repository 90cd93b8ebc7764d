/- plain: a code, laid anew. -/
import Derived.Test.YtleoalcbgpjieaaDoorGM
import Derived.Test.YtleoalcbgpjieaaDoorGI
namespace Go.Proofs.YtleoalcbgpjieaaDoor
open Go.Ab
set_option linter.unusedVariables false
set_option linter.unusedSimpArgs false
set_option maxRecDepth 20000
attribute [local irreducible] wOps wA wSeq wBlk wRound wOpsD

structure Po (h0 H h : Heap) (qo : Nat) (X S : SV) (L : Int) (C : List (List Vis)) : Prop where
  e : Ext h0 h
  len : H.length ≤ h.length
  kp : ∀ (j : Nat) (b : Blk), H[j]? = some b → j ≠ qo → h[j]? = some b
  c : Cel3 h qo X S (.int .i64 L)
  x : ∃ ss, ss.length = C.length ∧ Own h0 h X ss ∧ ∀ (i : Nat) (t : SV) (vs : List Vis), ss[i]? = some t → C[i]? = some vs → IsVis h t vs ∧ Ab.Apart X t ∧ Fsh H t
  xf : Fsh H X
theorem Po.ext {h0 H h h' : Heap} {qo : Nat} {X S : SV} {L : Int} {C : List (List Vis)} (s : Po h0 H h qo X S L C) (e : Ext h h') : Po h0 H h' qo X S L C := by
  obtain ⟨ss, x1, x2, x3⟩ := s.x
  exact ⟨s.e.trans e, Nat.le_trans s.len e.len, fun j b a c => e.get _ _ (s.kp j b a c), s.c.ext e, ⟨ss, x1, x2.ext e, fun i t vs a b => ⟨(x3 i t vs a b).1.ext e, (x3 i t vs a b).2⟩⟩, s.xf⟩
theorem Po.push {h0 H h2 h3 : Heap} {qo : Nat} {X X' S t : SV} {L : Int} {C : List (List Vis)} {vs : List Vis} {ss : List SV} (q0 : h0.length ≤ qo) (q1 : qo < H.length) (s : Po h0 H h2 qo X S L C)
    (x1 : ss.length = C.length) (x3 : ∀ (i : Nat) (t : SV) (vs : List Vis), ss[i]? = some t → C[i]? = some vs → IsVis h2 t vs ∧ Ab.Apart X t ∧ Fsh H t)
    (v1 : IsVis h2 t vs) (hfH : Fsh H t) (hat : Ab.Apart X t) (o3 : Own h0 h3 X' (ss ++ [t])) (e3 : Ext h0 h3) (f3 : Fram h2 h3 X X') (l3 : h2.length ≤ h3.length) :
    Po h0 H (h3.set qo (.cells [X', S, .int .i64 L] true 0)) qo X' S L (C ++ [vs]) := by
  have xf' : Fsh H X' := fun j hj => by
    have hj2 : j < h2.length := Nat.lt_of_lt_of_le hj s.len
    exact (f3 j _ (List.getElem?_eq_getElem hj2) (s.xf j hj)).2
  have c3 : Cel3 h3 qo X S (.int .i64 L) := (f3 _ _ s.c (s.xf _ q1)).1
  refine ⟨e3.set q0 _, by rw [List.length_set]; exact Nat.le_trans s.len l3, fun j b h1 h2 => ?_, c3.wr.2.2.2 _ _ _, ⟨ss ++ [t], by simp [x1], own_set o3 (xf' _ q1) _, fun i u us a b => ?_⟩, xf'⟩
  · rw [List.getElem?_set_ne (fun e => h2 e.symm)]
    exact (f3 j b (s.kp j b h1 h2) (s.xf j (List.getElem?_eq_some_iff.1 h1).1)).1
  · rcases Nat.lt_or_ge i ss.length with hi | hi
    · rw [List.getElem?_append_left hi] at a
      rw [List.getElem?_append_left (by omega)] at b
      obtain ⟨v1, v2, v3⟩ := x3 i u us a b
      exact ⟨vis_set (IsSl.away v1 f3 v2) (v3 _ q1) _, Fram.apart f3 v1 v2, v3⟩
    · rw [List.getElem?_append_right hi] at a
      rw [List.getElem?_append_right (by omega), ← x1] at b
      have h0' : i - ss.length = 0 := by
        have := (List.getElem?_eq_some_iff.1 a).1
        simp at this; omega
      rw [h0'] at a b
      simp only [List.getElem?_cons_zero, Option.some.injEq] at a b
      subst a b
      exact ⟨vis_set (IsSl.away v1 f3 hat) (hfH _ q1) _, Fram.apart f3 v1 hat, hfH⟩

theorem vcs_snoc (vs : List Vis) (v : Vis) : vcs (vs ++ [v]) = vcs vs ++ [.int .i64 v.1, .bool v.2] := by rw [vcs_app]; rfl
def I13v (hb : Heap) (qr qo : Nat) (X t : SV) (n i : Nat) (vs : List Vis) (E : Env) (h : Heap) : Prop := ∃ (k : Nat) (u : SV), k ≤ vs.length ∧ Ext hb h ∧ Own2 hb h u k (vcs (vs.take k)) ∧
  E = [(2, some (.sc (.ptr qr 0))), (3, some (.sc (.ptr qo 0))), (6, some (.sc u)), (15, some (.sc X)), (16, some (.sc (.int .i64 (n : Nat)))), (17, some (.sc (.int .i64 (i : Nat)))), (21, some (.sc t)), (22, some (.sc (.int .i64 (vs.length : Nat)))), (23, some (.sc (.int .i64 (k : Nat))))]
def R13v (hb : Heap) (qr qo : Nat) (X : SV) (n i : Nat) (vs : List Vis) (ex : Ex) (E : Env) (h : Heap) : Prop := ex = .ex 2 ∧ Ext hb h ∧ ∃ u a b c d, Own2 hb h u vs.length (vcs vs) ∧
  E = [(2, some (.sc (.ptr qr 0))), (3, some (.sc (.ptr qo 0))), (6, some (.sc u)), (15, some (.sc X)), (16, some (.sc (.int .i64 (n : Nat)))), (17, some (.sc (.int .i64 (i : Nat)))), (21, a), (22, b), (23, c), (24, d)]
theorem round13v (hb : Heap) (qr qo : Nat) (X t : SV) (n i : Nat) (vs : List Vis) (ht : IsVis hb t vs) (hl : vs.length ≤ 1000000) (hn : n ≤ 1000000 ∧ i ≤ n) (E : Env) (h : Heap) (hI : I13v hb qr qo X t n i vs E h) :
    wA FT HKt b13L1 (E.keep [2, 3, 6, 15, 16, 17, 21, 22, 23]) h (wRound (I13v hb qr qo X t n i vs) (cnt vs.length 23) (cnt vs.length 23 E h) (R13v hb qr qo X n i vs)) := by
  obtain ⟨k, u, hk, e, o, rfl⟩ := hI
  by_cases hlt : k < vs.length
  · obtain ⟨v, hx⟩ : ∃ v, vs[k]? = some v := ⟨_, List.getElem?_eq_getElem hlt⟩
    obtain ⟨id, off, cap, rfl, hrd⟩ := (ht.ext e).at hx
    have en : vcs (vs.take (k + 1)) = vcs (vs.take k) ++ [.int .i64 v.1, .bool v.2] := by rw [take_snoc hx, vcs_snoc]
    repeat' (first | refine w_seq ?_ | refine w_seqN ?_ | refine w_blk ?_ | refine w_blkN ?_ | refine w_skip ?_ | refine w_ops ?_ | ((refine i_cond ?_); refine w_condT rfl ?_) | ((refine i_nil ?_); first | refine w_end9 rfl rfl rfl rfl rfl rfl rfl rfl rfl ?_ | refine w_end10 rfl rfl rfl rfl rfl rfl rfl rfl rfl rfl ?_) | ((refine i_cons ?_); first | refine k_idxA rfl rfl (by omega) ?_ | refine op_ldA rfl rfl hrd ?_ | (refine k_newst rfl ?_; intro h1 e1 c1; have e2 := e.trans e1; have o1 := o.ext e1) | refine k_ldC rfl c1 ?_ | (refine k_push2 e2 o1 rfl rfl (by simp only [bigN]; omega) ?_; intro u' h3 o3 e3) | refine k_mv rfl ?_ | refine k_add rfl rfl (by omega) ?_ | refine k_lssT rfl rfl (by omega) ?_))
    exact w_roundN ⟨k + 1, u', by omega, e3, by rw [en]; exact o3, rfl⟩ (by simp [cnt, Env.get]; omega)
  · have hke : k = vs.length := by omega
    subst hke
    rw [List.take_length] at o
    repeat' (first | refine w_seq ?_ | refine w_seqN ?_ | refine w_seqX ?_ | refine w_exit ?_ | refine w_ops ?_ | ((refine i_cond ?_); refine w_condF rfl ?_) | ((refine i_nil ?_); refine w_end10 rfl rfl rfl rfl rfl rfl rfl rfl rfl rfl ?_) | ((refine i_cons ?_); refine k_lssF rfl rfl (by omega) ?_))
    exact w_roundX ⟨rfl, e, u, _, _, _, _, o, rfl⟩
def I13c (h0 H : Heap) (qr qo : Nat) (X S : SV) (g : GC) (E : Env) (h : Heap) : Prop := ∃ (i : Nat) (Y : SV), i ≤ g.C.length ∧ Po h0 H h qo Y S g.L (g.C.take i) ∧
  E = [(2, some (.sc (.ptr qr 0))), (3, some (.sc (.ptr qo 0))), (15, some (.sc X)), (16, some (.sc (.int .i64 (g.C.length : Nat)))), (17, some (.sc (.int .i64 (i : Nat))))]
def R13c (h0 H : Heap) (qr qo : Nat) (S : SV) (g : GC) (ex : Ex) (E : Env) (h : Heap) : Prop := ex = .ex 0 ∧ ∃ Y a b c d, Po h0 H h qo Y S g.L g.C ∧
  E = [(2, some (.sc (.ptr qr 0))), (3, some (.sc (.ptr qo 0))), (15, a), (16, b), (17, c), (18, d)]
set_option maxHeartbeats 4000000 in
theorem round13c (h0 H : Heap) (qr qo : Nat) (X S : SV) (g : GC) (hf : GFits g) (hX : IsComps h0 X g.C) (q0 : h0.length ≤ qo) (q1 : qo < H.length) (E : Env) (h : Heap) (hI : I13c h0 H qr qo X S g E h) :
    wA FT HKt b13L0 (E.keep [2, 3, 15, 16, 17]) h (wRound (I13c h0 H qr qo X S g) (cnt g.C.length 17) (cnt g.C.length 17 E h) (R13c h0 H qr qo S g)) := by
  obtain ⟨i, Y, hi, st, rfl⟩ := hI
  have hcl := hf.c
  by_cases hlt : i < g.C.length
  · obtain ⟨vs, hx⟩ : ∃ vs, g.C[i]? = some vs := ⟨_, List.getElem?_eq_getElem hlt⟩
    obtain ⟨id, off, cap, t, rfl, hrd, it⟩ := hX.at hx
    have hrd' := readN_ext st.e hrd
    have it' := it.ext st.e
    have lt := it'.len
    have en : g.C.take (i + 1) = g.C.take i ++ [vs] := take_snoc hx
    have hvl : vs.length ≤ 1000000 := by
      have h1 := flat_snoc hx
      have h2 := flat_le (C := g.C) (i + 1)
      rw [h1, List.length_append] at h2
      have := hf.v
      omega
    repeat' (first | refine w_seq ?_ | refine w_seqN ?_ | refine w_blk ?_ | refine w_skip ?_ | refine w_ops ?_ | ((refine i_cond ?_); refine w_condT rfl ?_) | ((refine i_nil ?_); first | refine w_end6 rfl rfl rfl rfl rfl rfl ?_ | refine w_end7 rfl rfl rfl rfl rfl rfl rfl ?_ | refine w_end9 rfl rfl rfl rfl rfl rfl rfl rfl rfl ?_) | ((refine i_cons ?_); first | refine k_idxA rfl rfl (by omega) ?_ | refine k_ld rfl hrd' ?_ | refine k_len rfl lt ?_ | refine k_mv rfl ?_ | refine k_lssT rfl rfl (by omega) ?_))
    refine w_loop (I13v h qr qo (.slc id off g.C.length cap) t g.C.length i vs) (cnt vs.length 23) (R13v h qr qo (.slc id off g.C.length cap) g.C.length i vs) ⟨0, .nilS, Nat.zero_le _, Ext.refl _, .inl ⟨rfl, rfl, rfl⟩, rfl⟩ (round13v h qr qo _ t _ i vs it' hvl ⟨hcl, by omega⟩) ?_
    rintro ex E' h2 ⟨rfl, e2, u, a, b, c, d, o2, rfl⟩
    have s2 := st.ext e2
    obtain ⟨ss, x1, x2, x3⟩ := s2.x
    have b2 := s2.c.at
    have hfu : Fsh h u := fun j hj => by
      rcases o2 with ⟨rfl, -⟩ | ⟨id', rfl, k2, -⟩
      · exact fsh_nil h j hj
      · intro o n c e; injection e with e1; omega
    have hau : Ab.Apart Y u := by
      obtain ⟨ss', y1, y2, y3⟩ := st.x
      exact apart_new y2 hfu
    have v2 := Own2.vis o2
    repeat' (first | refine w_seqN ?_ | refine w_blkN ?_ | refine w_blkX ?_ | refine w_ops ?_ | ((refine i_nil ?_); refine w_end5 rfl rfl rfl rfl rfl ?_) | ((refine i_cons ?_); first | refine k_fldA rfl ?_ | refine k_ldb rfl b2 rfl ?_ | (refine k_pushL s2.e x2 rfl rfl (by simp only [bigN]; rw [x1, List.length_take]; omega) ?_; intro Y' h3 o3 e3 f3 l3; have c3 : Cel3 h3 qo Y S (.int .i64 g.L) := (f3 _ _ s2.c (s2.xf _ q1)).1; have w3 := c3.wr.1 Y') | refine k_st2 rfl rfl w3 ?_ | refine k_mv rfl ?_ | refine k_add rfl rfl (by omega) ?_))
    have s3 := Po.push q0 q1 s2 x1 x3 v2 (fun j hj => hfu j (Nat.lt_of_lt_of_le hj st.len)) hau o3 e3 f3 l3
    exact w_roundN ⟨i + 1, Y', by omega, by rw [en]; exact s3, rfl⟩ (by simp [cnt, Env.get]; omega)
  · have hie : i = g.C.length := by omega
    subst hie
    rw [List.take_length] at st
    repeat' (first | refine w_seq ?_ | refine w_seqN ?_ | refine w_seqX ?_ | refine w_exit ?_ | refine w_ops ?_ | ((refine i_cond ?_); refine w_condF rfl ?_) | ((refine i_nil ?_); refine w_end6 rfl rfl rfl rfl rfl rfl ?_) | ((refine i_cons ?_); refine k_lssF rfl rfl (by omega) ?_))
    exact w_roundX ⟨rfl, Y, _, _, _, _, st, rfl⟩
set_option maxHeartbeats 4000000 in
theorem call13 (h0 : Heap) (X Sg : SV) (g : GC) (hf : GFits g) (hc : IsCode h0 X Sg g) : ∃ v h', Cal FT HKt 13 [.agg [X, Sg, .int .i64 g.L]] h0 v h' ∧ Ext h0 h' ∧ ∃ Y, v = .agg [Y, Sg, .int .i64 g.L] ∧ IsCode h' Y Sg g := by
  refine Cal.of (F := a13) rfl rfl rfl ?_
  have hX := hc.x.len
  repeat' (first | refine w_seq ?_ | refine w_seqN ?_ | refine w_blk ?_ | refine w_ops ?_ | ((refine i_nil ?_); first | refine w_end2 rfl rfl ?_ | refine w_end3 rfl rfl rfl ?_ | refine w_end5 rfl rfl rfl rfl rfl ?_) | ((refine i_cons ?_); first | (refine k_box rfl rfl ?_; intro h1 e1 l1 b1) | (have l2' := l2; refine k_new3 ?_; intro h3 e3 l3 c3) | (refine k_new3 ?_; intro h2 e2 l2 c2; have b2 := b1.ext e2) | refine k_bld rfl rfl ?_ | (refine k_st3 rfl rfl c3 ?_; intro h4 q4 c4; have e4 : Ext h2 h4 := (by rw [q4]; exact e3.set (Nat.le_refl _) _); have b4 := b2.ext e4; have c24 := c2.ext e4; have l4 : h4.length = h3.length := (by rw [q4, List.length_set])) | refine k_fldA rfl ?_ | refine k_ldb rfl b4 rfl ?_ | refine k_ldb rfl b2 rfl ?_ | refine k_len rfl hX ?_ | refine k_mv rfl ?_))
  have ol1 := e1.len
  have ol2 := e2.len
  have x04 : Ext h0 h4 := (e1.trans e2).trans e4
  have po : Po h0 h4 h4 h2.length .nilS Sg g.L (g.C.take 0) := ⟨x04, Nat.le_refl _, fun _ _ h _ => h, c4, ⟨[], by simp, .inl ⟨rfl, rfl⟩, by simp⟩, fsh_nil _⟩
  refine w_loop (I13c h0 h4 h1.length h2.length X Sg g) (cnt g.C.length 17) (R13c h0 h4 h1.length h2.length Sg g) ⟨0, .nilS, Nat.zero_le _, po, rfl⟩ (round13c h0 h4 _ _ X Sg g hf hc.x (by omega) (by omega)) ?_
  rintro ex E' h5 ⟨rfl, Y, a, b, c, d, s5, rfl⟩
  have r5 : Cel3 h5 h1.length .nilS .nilS (.int .i64 0) := s5.kp _ _ c24 (by omega)
  have c5 := s5.c
  repeat' (first | refine w_seq ?_ | refine w_seqN ?_ | refine w_blkX ?_ | refine w_ret ?_ | refine w_ops ?_ | ((refine i_nil ?_); refine w_end1 rfl ?_) | ((refine i_cons ?_); first | refine k_ld3 rfl c5 ?_ | (refine k_st3 rfl rfl r5 ?_; intro h6 q6 c6)))
  have e6 : Ext h0 h6 := by rw [q6]; exact s5.e.set (by omega) _
  obtain ⟨ss, x1, x2, x3⟩ := s5.x
  have hlt : h1.length < h4.length := by omega
  refine ⟨.inr rfl, oK_cell rfl c6.read ⟨e6, Y, rfl, ⟨⟨ss, x1, ?_, fun i t vs a b => ?_⟩, IsSl.ext hc.s e6⟩⟩⟩
  · rw [q6]
    exact (own_set x2 (s5.xf _ hlt) _).sl
  · rw [q6]
    exact vis_set (x3 i t vs a b).1 ((x3 i t vs a b).2.2 _ hlt) _
end Go.Proofs.YtleoalcbgpjieaaDoor
