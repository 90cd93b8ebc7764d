/- gauss.Format: the outer loops; its contract. -/
import Derived.Test.YtjmapbmdfbdomaaDoorG3
namespace Go.Proofs.YtjmapbmdfbdomaaDoor
open Go.Ab
set_option linter.unusedVariables false
set_option linter.unusedSimpArgs false
set_option maxRecDepth 20000
attribute [local irreducible] wOps wA wSeq wBlk wRound wOpsD

def I8c (h0 : Heap) (q : Nat) (X : SV) (g : GC) (E : Env) (h : Heap) : Prop := ∃ (i : Nat) (w : SV), i ≤ g.C.length ∧ Own h0 h w (((g.C.take i).map (wrdT g.S)).map tb) ∧ Ext h0 h ∧
  E = [(1, some (.sc (.ptr q 0))), (4, some (.sc w)), (14, some (.sc X)), (15, some (.sc (.int .i64 (g.C.length : Nat)))), (16, some (.sc (.int .i64 (i : Nat))))]
def R8c (h0 : Heap) (q : Nat) (g : GC) (ex : Ex) (E : Env) (h : Heap) : Prop := ex = .ex 0 ∧ Ext h0 h ∧ ∃ w a b c d, Own h0 h w ((g.C.map (wrdT g.S)).map tb) ∧
  E = [(1, some (.sc (.ptr q 0))), (4, some (.sc w)), (14, a), (15, b), (16, c), (17, d)]
set_option maxHeartbeats 4000000 in
theorem round8c (h0 : Heap) (q : Nat) (X Y Sg Z : SV) (g : GC) (hg : VG g) (hX : IsComps h0 X g.C) (hI : IsInts h0 Sg g.S) (hq : Blk.At h0 q [Y, Sg, Z]) (E : Env) (h : Heap) (hJ : I8c h0 q X g E h) :
    wA FT HKt b8L0 (E.keep [1, 4, 14, 15, 16]) h (wRound (I8c h0 q X g) (cnt g.C.length 16) (cnt g.C.length 16 E h) (R8c h0 q g)) := by
  obtain ⟨i, w, hi, o, e, rfl⟩ := hJ
  obtain ⟨g1, g2, g3, g4, g5, g6, g7⟩ := hg
  have hcl : g.C.length ≤ 128 := by
    have : ∀ (C : List (List Vis)), (∀ c ∈ C, c ≠ []) → C.length ≤ C.flatten.length := by
      intro C
      induction C with
      | nil => intro _; simp
      | cons c r ih =>
        intro h
        have h1 := List.length_pos_iff.2 (h c (by simp))
        have h2 := ih (fun x hx => h x (by simp [hx]))
        simp only [List.length_cons, List.flatten_cons, List.length_append]; omega
    have := this g.C g4
    omega
  by_cases hlt : i < g.C.length
  · obtain ⟨vs, hx⟩ : ∃ vs, g.C[i]? = some vs := ⟨_, List.getElem?_eq_getElem hlt⟩
    obtain ⟨id, off, cap, t, rfl, hrd, it⟩ := hX.at hx
    have hrd' := readN_ext e hrd
    have it' := it.ext e
    have lt := it'.len
    have hv : ∀ v ∈ vs, 0 ≤ v.1 ∧ v.1 < g.S.length := fun v hv => g5 v (List.mem_flatten.2 ⟨vs, List.mem_of_getElem? hx, hv⟩)
    have hl : vs.length ≤ 128 := by
      have : vs.length ≤ g.C.flatten.length := by
        have h1 := flat_snoc hx
        have h2 := flat_le (C := g.C) (i + 1)
        rw [h1, List.length_append] at h2
        omega
      omega
    have en : (g.C.take (i + 1)).map (wrdT g.S) = (g.C.take i).map (wrdT g.S) ++ [wrdT g.S vs] := by rw [take_snoc hx]; simp
    have lw := wrdT_len g.S (vs := vs) (fun u hu => by have := hv u hu; omega)
    have lo : (((g.C.take i).map (wrdT g.S)).map tb).length ≤ 128 := by simp; omega
    repeat' (first | refine w_seq ?_ | refine w_seqN ?_ | refine w_blk ?_ | refine w_skip ?_ | refine w_ops ?_ | ((refine i_cond ?_); refine w_condT rfl ?_) | ((refine i_nil ?_); first | refine w_end6 rfl rfl rfl rfl rfl rfl ?_ | refine w_end7 rfl rfl rfl rfl rfl rfl rfl ?_ | refine w_end9 rfl rfl rfl rfl rfl rfl rfl rfl rfl ?_) | ((refine i_cons ?_); first | refine k_idxA rfl rfl (by omega) ?_ | refine k_ld rfl hrd' ?_ | refine k_newT ?_ | refine k_len rfl lt ?_ | refine k_mv rfl ?_ | refine k_lssT rfl rfl (by omega) ?_))
    refine w_loop (I8v h _ q w _ t g.S g.C.length i vs) (cnt vs.length 22) (R8v h _ q w _ g.S g.C.length i vs) ⟨0, Nat.zero_le _, Bld.new 53 bz (Ext.refl h), rfl⟩ (round8v h _ q w _ t Y Sg Z g.S g3 g.C.length i vs it' (IsSl.ext hI e) (hq.ext e) hv g1 hl) ?_
    rintro ex E' h' ⟨rfl, b1, a, b, c, d, rfl⟩
    repeat' (first | refine w_seqN ?_ | refine w_blkN ?_ | refine w_blkX ?_ | refine w_ops ?_ | ((refine i_nil ?_); refine w_end5 rfl rfl rfl rfl rfl ?_) | ((refine i_cons ?_); first | (refine k_call rfl (call21 h h' _ _ b1 (by omega)) ?_; rintro v h2 ⟨rfl, e2⟩; have o2 := o.ext e2; have x2 := e.trans e2) | (refine k_push x2 o2 rfl rfl (by simp only [bigN]; omega) ?_; intro s1 h3 o3 e3 f3) | refine k_mv rfl ?_ | refine k_add rfl rfl (by omega) ?_))
    exact w_roundN ⟨i + 1, s1, by omega, by rw [en]; simpa using o3, e3, rfl⟩ (by simp [cnt, Env.get]; omega)
  · have hie : i = g.C.length := by omega
    subst hie
    rw [List.take_length] at o
    repeat' (first | refine w_seq ?_ | refine w_seqN ?_ | refine w_seqX ?_ | refine w_exit ?_ | refine w_ops ?_ | ((refine i_cond ?_); refine w_condF rfl ?_) | ((refine i_nil ?_); refine w_end6 rfl rfl rfl rfl rfl rfl ?_) | ((refine i_cons ?_); refine k_lssF rfl rfl (by omega) ?_))
    exact w_roundX ⟨rfl, e, w, _, _, _, _, o, rfl⟩
def I8s (h0 : Heap) (g : GC) (E : Env) (h : Heap) : Prop := ∃ (i : Nat) (w : SV), (i : Int) ≤ g.L ∧ Own h0 h w ((g.C.map (wrdT g.S) ++ List.replicate i [42]).map tb) ∧ Ext h0 h ∧
  E = [(4, some (.sc w)), (51, some (.sc (.int .i64 g.L))), (52, some (.sc (.int .i64 (i : Nat))))]
def R8s (h0 : Heap) (g : GC) (ex : Ex) (E : Env) (h : Heap) : Prop := ex = .ex 4 ∧ Ext h0 h ∧ ∃ w a b c, Own h0 h w ((wordsG g).map tb) ∧ E = [(4, some (.sc w)), (51, a), (52, b), (53, c)]
theorem round8s (h0 : Heap) (g : GC) (hc : g.C.length ≤ 1000) (hL : 0 ≤ g.L ∧ g.L ≤ 64) (E : Env) (h : Heap) (hJ : I8s h0 g E h) :
    wA FT HKt b8L2 (E.keep [4, 51, 52]) h (wRound (I8s h0 g) (cnt g.L.toNat 52) (cnt g.L.toNat 52 E h) (R8s h0 g)) := by
  obtain ⟨i, w, hi, o, e, rfl⟩ := hJ
  by_cases hlt : (i : Int) < g.L
  · have en : g.C.map (wrdT g.S) ++ List.replicate (i + 1) [42] = (g.C.map (wrdT g.S) ++ List.replicate i [42]) ++ [[42]] := by rw [List.replicate_succ', List.append_assoc]
    have lo : ((g.C.map (wrdT g.S) ++ List.replicate i [42]).map tb).length ≤ 2000 := by simp; omega
    repeat' (first | refine w_seq ?_ | refine w_seqN ?_ | refine w_blk ?_ | refine w_blkN ?_ | refine w_skip ?_ | refine w_ops ?_ | ((refine i_cond ?_); refine w_condT rfl ?_) | ((refine i_nil ?_); first | refine w_end3 rfl rfl rfl ?_ | refine w_end4 rfl rfl rfl rfl ?_) | ((refine i_cons ?_); first | (refine k_push e o rfl rfl (by simp only [bigN]; omega) ?_; intro s1 h3 o3 e3 f3) | refine k_mv rfl ?_ | refine k_add rfl rfl (by omega) ?_ | refine k_lssT rfl rfl (by omega) ?_))
    exact w_roundN ⟨i + 1, s1, by omega, by rw [en, List.map_append]; exact o3, e3, rfl⟩ (by simp [cnt, Env.get]; omega)
  · have hie : i = g.L.toNat := by omega
    subst hie
    repeat' (first | refine w_seq ?_ | refine w_seqN ?_ | refine w_seqX ?_ | refine w_exit ?_ | refine w_ops ?_ | ((refine i_cond ?_); refine w_condF rfl ?_) | ((refine i_nil ?_); refine w_end4 rfl rfl rfl rfl ?_) | ((refine i_cons ?_); refine k_lssF rfl rfl (by omega) ?_))
    exact w_roundX ⟨rfl, e, w, _, _, _, o, rfl⟩
theorem comps_le {C : List (List Vis)} (h : ∀ c ∈ C, c ≠ []) : C.length ≤ C.flatten.length := by
  induction C with
  | nil => simp
  | cons c r ih =>
    have h1 := List.length_pos_iff.2 (h c (by simp))
    have h2 := ih (fun x hx => h x (by simp [hx]))
    simp only [List.length_cons, List.flatten_cons, List.length_append]; omega
theorem fmtG_len {g : GC} (hg : VG g) : (wordsG g).length ≤ 192 ∧ (fmtG g).length ≤ 1000000 := by
  obtain ⟨g1, g2, g3, g4, g5, g6, g7⟩ := hg
  have hc := comps_le g4
  have h1 : (wordsG g).length ≤ 192 := by simp [wordsG]; omega
  refine ⟨h1, ?_⟩
  have h2 := joinS_len (wordsG g) 3072 (fun w hw => by
    rcases List.mem_append.1 hw with hw | hw
    · obtain ⟨vs, hvs, rfl⟩ := List.mem_map.1 hw
      have hv : ∀ v ∈ vs, 0 ≤ v.1 ∧ v.1 < 64 := fun v hv => by have := g5 v (List.mem_flatten.2 ⟨vs, hvs, hv⟩); omega
      have := wrdT_len g.S hv
      obtain ⟨i, hi⟩ := List.mem_iff_getElem?.1 hvs
      have h1 := flat_snoc hi
      have h2 := flat_le (C := g.C) (i + 1)
      rw [h1, List.length_append] at h2
      omega
    · rw [List.eq_of_mem_replicate hw]; simp)
  unfold fmtG
  have h3 := Nat.mul_le_mul_right 3073 h1
  omega
set_option maxHeartbeats 4000000 in
theorem call8 (h0 : Heap) (X Sg : SV) (g : GC) (hf : Fits g) (hc : IsCode h0 X Sg g) (hg : VG g) : ∃ v h', Cal FT HKt 8 [.agg [X, Sg, .int .i64 g.L]] h0 v h' ∧ Ext h0 h' ∧ v = .tup [.sc (tb (fmtG g)), .sc (.int .i64 0)] := by
  refine Cal.of (F := a8) rfl rfl rfl ?_
  have hX := hc.x.len
  have hc' := comps_le hg.2.2.2.1
  have h7 := hg.2.2.2.2.2.2
  have h1' := hg.1
  have hL := hg.2.1
  obtain ⟨m1, m2⟩ := fmtG_len hg
  repeat' (first | refine w_seq ?_ | refine w_seqN ?_ | refine w_blk ?_ | refine w_skip ?_ | refine w_ops ?_ | ((refine i_cond ?_); refine w_condF rfl ?_) | ((refine i_nil ?_); first | refine w_end1 rfl ?_ | refine w_end2 rfl rfl ?_ | refine w_end5 rfl rfl rfl rfl rfl ?_) | ((refine i_cons ?_); first | (refine k_box rfl rfl ?_; intro h1 e1 l1 b1) | (refine k_ldA rfl b1 rfl ?_) | (refine k_call rfl (valT _ X Sg g hf (hc.ext e1) hg) ?_; rintro v h2 ⟨e2, rfl⟩; have b2 := b1.ext e2; have c2 := (hc.ext e1).ext e2) | refine k_fldA rfl ?_ | refine k_ldb rfl b2 rfl ?_ | refine k_len rfl hX ?_ | refine k_mv rfl ?_ | refine k_notT rfl ?_))
  refine w_loop (I8c h2 _ X g) (cnt g.C.length 16) (R8c h2 _ g) ⟨0, .nilS, Nat.zero_le _, .inl ⟨rfl, rfl⟩, Ext.refl _, rfl⟩ (round8c h2 _ X _ Sg _ g hg c2.x c2.s b2) ?_
  rintro ex E' h3 ⟨rfl, e3, w, a, b, c, d, o3, rfl⟩
  have b3 := b2.ext e3
  repeat' (first | refine w_seq ?_ | refine w_seqN ?_ | refine w_blk ?_ | refine w_blkX ?_ | refine w_ops ?_ | ((refine i_nil ?_); refine w_end3 rfl rfl rfl ?_) | ((refine i_cons ?_); first | refine k_fldA rfl ?_ | refine k_ldb rfl b3 rfl ?_ | refine k_mv rfl ?_))
  refine w_loop (I8s h2 g) (cnt g.L.toNat 52) (R8s h2 g) ⟨0, w, by omega, by simpa using o3, e3, rfl⟩ (round8s h2 g (by omega) hL) ?_
  rintro ex E' h4 ⟨rfl, e4, w4, a, b, c, o4, rfl⟩
  have hsl := o4.sl
  rw [List.length_map] at hsl
  have k1 := join_call (h := h4) (s := w4) (wordsG g) [32] hsl (by omega) (by rw [join_same]; exact m2)
  rw [join_same] at k1
  repeat' (first | refine w_seq ?_ | refine w_seqN ?_ | refine w_blkX ?_ | refine w_ret ?_ | refine w_ops ?_ | ((refine i_nil ?_); refine w_end2 rfl rfl ?_) | ((refine i_cons ?_); first | (refine k_call rfl k1 ?_; rintro v h5 ⟨rfl, rfl⟩) | refine k_mv rfl ?_))
  exact ⟨.inr rfl, (e1.trans e2).trans e4, rfl⟩
theorem call8e (h0 : Heap) (X Sg : SV) (g : GC) (hf : Fits g) (hc : IsCode h0 X Sg g) (hg : ¬ VG g) : ∃ v h', Cal FT HKt 8 [.agg [X, Sg, .int .i64 g.L]] h0 v h' ∧ Ext h0 h' ∧ v = .tup [.sc (tb []), .sc (.int .i64 1)] := by
  refine Cal.of (F := a8) rfl rfl rfl ?_
  repeat' (first | refine w_seq ?_ | refine w_seqN ?_ | refine w_seqR ?_ | refine w_ret ?_ | refine w_ops ?_ | ((refine i_cond ?_); refine w_condT rfl ?_) | ((refine i_nil ?_); first | refine w_end1 rfl ?_ | refine w_end2 rfl rfl ?_) | ((refine i_cons ?_); first | (refine k_box rfl rfl ?_; intro h1 e1 l1 b1) | (refine k_ldA rfl b1 rfl ?_) | (refine k_call rfl (valF _ X Sg g hf (hc.ext e1) hg) ?_; rintro v h2 ⟨e2, rfl⟩) | refine k_mv rfl ?_ | refine k_notF rfl ?_))
  exact ⟨.inr rfl, e1.trans e2, rfl⟩
end Go.Proofs.YtjmapbmdfbdomaaDoor
