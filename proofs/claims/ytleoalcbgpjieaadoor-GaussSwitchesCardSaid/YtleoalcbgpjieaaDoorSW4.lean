/- The law GaussSwitches, reckoned. -/
import Derived.Test.YtleoalcbgpjieaaDoorSW3
namespace Go.Proofs.YtleoalcbgpjieaaDoor
open Go.Ab
set_option linter.unusedVariables false
set_option linter.unusedSimpArgs false
set_option maxRecDepth 20000
set_option maxHeartbeats 4000000
attribute [local irreducible] wOps wA wSeq wBlk wRound wRoundI wOpsD wOpsS

theorem GFits.sw {g : GC} (h : GFits g) (x : Nat) : GFits (swG x g) := by
  refine ⟨by simpa [swG] using h.c, by rw [sw_flat, List.length_map]; exact h.v, by simpa [swG, swS] using h.s, h.l, fun v hv => ?_⟩
  rw [sw_flat] at hv
  obtain ⟨w, hw, rfl⟩ := List.mem_map.1 hv
  exact h.n w hw
theorem GFits.bk {g : GC} (h : GFits g) : GFits (bkG g) := by
  have hp := bk_perm g.C
  exact ⟨by simpa [bkG] using h.c, by rw [show (bkG g).C.flatten.length = g.C.flatten.length from hp.length_eq]; exact h.v, h.s, h.l, fun v hv => h.n v (hp.mem_iff.1 hv)⟩
theorem Qo.codes {h0 H h : Heap} {q8 q9 : Nat} {X1 S1 X2 S2 : SV} {l : Int} {C1 C2 : List (List Vis)} (s : Qo h0 H h q8 q9 X1 S1 X2 S2 l C1 C2) : IsComps h X1 C1 ∧ IsComps h X2 C2 := by
  obtain ⟨ss, a1, a2, a3⟩ := s.x1
  obtain ⟨zs, b1, b2, b3⟩ := s.x2
  exact ⟨⟨ss, a1, a2.sl, fun i t vs h1 h2 => (a3 i t vs h1 h2).1⟩, ⟨zs, b1, b2.sl, fun i t vs h1 h2 => (b3 i t vs h1 h2).1⟩⟩
set_option maxHeartbeats 16000000 in
theorem call4 (h0 : Heap) (X Sg : SV) (g : GC) (hw : Wide g) (hc : IsCode h0 X Sg g) (m : Int) (hm : 0 ≤ m ∧ m ≤ 255) : ∃ v h', Cal FT HKt 4 [.agg [X, Sg, .int .i64 g.L], .sc (.int .u8 m)] h0 v h' ∧ v = .sc (.bool true) := by
  refine Cal.of (F := a4) rfl rfl rfl ?_
  obtain ⟨a, rfl⟩ : ∃ a : Nat, m = (a : Int) := ⟨m.toNat, by omega⟩
  have lS := IsSl.len hc.s
  have lX := hc.x.len
  by_cases hfw : Few g
  · have hf := hfw.fits hw
    have hl := hfw.1
    have hcl := hf.c
    have kf := fun H (e : Ext h0 H) => fewT H X Sg g hw (hc.ext e) hfw
    by_cases hg : VG g
    · have kv := fun H (e : Ext h0 H) => vldT hf hg H X Sg (hc.ext e)
      by_cases hn : g.S.length = 0
      · repeat' (first | refine w_seq ?_ | refine w_seqN ?_ | refine w_seqR ?_ | refine w_ret ?_ | refine w_ops ?_ | ((refine i_cond ?_); refine w_condT rfl ?_) | ((refine i_nil ?_); first | refine w_end1 rfl ?_ | refine w_end2 rfl rfl ?_ | refine w_end3 rfl rfl rfl ?_) | ((refine i_cons ?_); first | (refine k_box rfl rfl ?_; intro h1 e1 l1 b1) | (have z := e3; refine k_call rfl (awake_callT _) ?_; rintro v hz ⟨rfl, rfl⟩) | (refine k_call rfl (awake_callT _) ?_; rintro v ha ⟨rfl, rfl⟩) | (have z := e2; refine k_ldA rfl b2 rfl ?_) | refine k_ldA rfl b1 rfl ?_ | (refine k_call rfl (kf ha e1) ?_; rintro v h2 ⟨e2, rfl⟩; have b2 := b1.ext e2; have x2 := e1.trans e2) | (refine k_call rfl (kv h2 x2) ?_; rintro v h3 ⟨e3, rfl⟩; have b3 := b2.ext e3) | refine k_fldA rfl ?_ | refine k_ldb rfl b3 rfl ?_ | refine k_len rfl lS ?_ | refine k_want rfl ?_ | refine k_mv rfl ?_ | refine k_pickF rfl rfl ?_ | refine k_notT rfl ?_ | refine k_eqlT rfl rfl (by omega) ?_))
        all_goals exact ⟨.inr rfl, rfl⟩
      · have kg := fun H (e : Ext h0 H) => call17g H X Sg g hf hg (hc.ext e)
        have hxl : a % g.S.length < g.S.length := Nat.mod_lt _ (by omega)
        have hmi : (a : Int) % (g.S.length : Int) = ((a % g.S.length : Nat) : Int) := by rw [Int.natCast_emod]
        generalize a % g.S.length = x at *
        have kg1 := gen_sw hg hxl
        have kg2 := gen_bk hg
        repeat' (first | refine w_seq ?_ | refine w_seqN ?_ | refine w_skip ?_ | refine w_ops ?_ | refine w_opsD ?_ | refine d_one ?_ | ((refine i_cond ?_); refine w_condF rfl ?_) | ((refine i_nil ?_); first | refine d_same ?_ | refine d_ext (by assumption) ?_ | refine w_end2 rfl rfl ?_ | refine w_end3 rfl rfl rfl ?_ | refine w_end4 rfl rfl rfl rfl ?_) | ((refine i_cons ?_); first | (refine k_box rfl rfl ?_; intro h1 e1 l1 b1) | (refine k_call rfl (awake_callT _) ?_; rintro v ha ⟨rfl, rfl⟩) | (have z := e3; refine k_ldA rfl b3 rfl ?_) | (have z := e2; refine k_ldA rfl b2 rfl ?_) | refine k_ldA rfl b1 rfl ?_ | (refine k_call rfl (kf ha e1) ?_; rintro v h2 ⟨e2, rfl⟩; have b2 := b1.ext e2; have x2 := e1.trans e2) | (refine k_call rfl (kv h2 x2) ?_; rintro v h3 ⟨e3, rfl⟩; have b3 := b2.ext e3; have x3 := x2.trans e3) | refine k_fldA rfl ?_ | (have z := e4; refine k_ldb rfl b4 rfl ?_) | refine k_ldb rfl b3 rfl ?_ | refine k_len rfl lS ?_ | (refine k_call rfl (kg h3 x3) ?_; rintro v h4 ⟨e4, rfl, hpp⟩; have b4 := b3.ext e4; have x4 := x3.trans e4) | refine k_conv rfl (by omega) ?_ | refine k_remE hmi rfl rfl (by omega) ?_ | (have z := e4; refine k_lit0 ?_; intro h5 o5 e5; have b5 := b4.ext e5; have hsrc := IsInts.src (IsSl.ext hc.s (x4.trans e5))) | refine k_want rfl ?_ | refine k_mv rfl ?_ | refine k_pickF rfl rfl ?_ | refine k_notT rfl ?_ | refine k_eqlF rfl rfl (by omega) ?_ | refine k_ok rfl rfl ?_))
        obtain ⟨P, ps, hp⟩ := hpp
        have h0n := gen_nonneg hg hp
        repeat' (first | refine w_seq ?_ | refine w_seqN ?_ | refine w_opsD ?_ | refine d_one ?_ | refine d_nil ?_ | ((refine i_nil ?_); first | refine d_same ?_ | refine d_ord ?_ | refine d_ext (by assumption) ?_ | refine w_end5 rfl rfl rfl rfl rfl ?_) | ((refine i_cons ?_); first | refine k_fldA rfl ?_ | (have z := o6; refine k_ldb rfl b6 rfl ?_) | refine k_ldb rfl b5 rfl ?_ | (refine k_app0 e5 o5 rfl rfl hsrc (by simp only [bigN, List.length_map]; omega) ?_; intro s6 h6 o6 e6 f6; have b6 := b5.ext e6) | refine k_bld rfl rfl ?_ | (refine k_new3 ?_; intro h7 e7 l7 c7) | (refine k_st3 rfl rfl c7 ?_; intro h8 q8 c8)))
        have x46 : Ext h4 h6 := e5.trans e6
        have l46 := x46.len
        have e68 : Ext h6 h8 := by rw [q8]; exact e7.set (Nat.le_refl _) _
        have x48 : Ext h4 h8 := x46.trans e68
        have o8 : Own h4 h8 s6 (ints g.S) := by simpa [ints] using o6.ext e68
        have b8 := b6.ext e68
        have n6 : ∀ j, h6.length ≤ j → NotAt s6 j := fun j hj => isSl_not o6.sl hj
        obtain ⟨y, hy⟩ : ∃ y, g.S[x]? = some y := ⟨_, List.getElem?_eq_getElem hxl⟩
        have hyd : g.S.getD x 0 = y := getD_at hy
        have hy1 : y = 1 ∨ y = -1 := hg.2.2.1 y (List.mem_of_getElem? hy)
        obtain ⟨id9, cap9, h9, es, w9, o9, x9, f9, l9⟩ := Own.wr x48 o8 (i := x) (by simpa using hxl) (.int .i64 (-y))
        rw [show (ints g.S).length = g.S.length by simp] at es
        subst es
        obtain ⟨id', off', cap', e', r8⟩ := IsInts.at (Ab.Own.ids (xs := g.S) o8) hy
        cases e'
        have o9' : Own h4 h9 (.slc id9 0 g.S.length cap9) (ints (swS x g.S)) := by
          have : ints (swS x g.S) = (ints g.S).set x (.int .i64 (-y)) := by unfold swS; rw [hyd]; simp [ints, List.map_set]
          rw [this]; exact o9
        have hc8 : Blk.At h8 h6.length [.nilS, .slc id9 0 g.S.length cap9, .int .i64 g.L] := c8.at
        have hc9 : Cel3 h9 h6.length .nilS (.slc id9 0 g.S.length cap9) (.int .i64 g.L) := (f9 _ _ c8 (n6 _ (Nat.le_refl _))).1
        have b9 := b4.ext x9
        repeat' (first | refine w_seq ?_ | refine w_seqN ?_ | refine w_blk ?_ | refine w_ops ?_ | refine d_one ?_ | refine d_nil ?_ | ((refine i_nil ?_); first | refine d_same ?_ | refine d_ord ?_ | refine w_end5 rfl rfl rfl rfl rfl ?_ | refine w_end6 rfl rfl rfl rfl rfl rfl ?_ | refine w_end8 rfl rfl rfl rfl rfl rfl rfl rfl ?_) | ((refine i_cons ?_); first | refine k_fldA rfl ?_ | (have z := eA; refine k_ldb rfl bB rfl ?_) | refine k_ldb rfl hc8 rfl ?_ | refine k_ldb rfl b9 rfl ?_ | refine k_idxA (esz := 1) rfl rfl (by omega) ?_ | refine k_ld rfl r8 ?_ | refine k_neg rfl (by omega) ?_ | refine k_st rfl rfl w9 ?_ | (refine k_new3 ?_; intro hA eA lA cA) | (refine k_st3 rfl rfl cA ?_; intro hB qB cB; have e9B : Ext h9 hB := (by rw [qB]; exact eA.set (Nat.le_refl _) _); have bB := b9.ext e9B) | refine k_bld rfl rfl ?_ | refine k_len rfl lX ?_ | refine k_mv rfl ?_))
        have l69 : h6.length < h9.length := by have := c8.lt; omega
        have lB : hB.length = h9.length + 1 := by rw [qB, List.length_set, lA]
        have x4B : Ext h4 hB := x9.trans e9B
        have hcB : Cel3 hB h6.length .nilS (.slc id9 0 g.S.length cap9) (.int .i64 g.L) := hc9.ext e9B
        have iB : IsInts hB (.slc id9 0 g.S.length cap9) (swS x g.S) := IsSl.ext (Ab.Own.ids (xs := swS x g.S) o9') e9B
        have q0 : Qo h4 hB hB h6.length h9.length .nilS (.slc id9 0 g.S.length cap9) .nilS Sg g.L ((g.C.take 0).map (List.map (swV x))) ((g.C.take 0).map List.reverse) :=
          ⟨x4B, Nat.le_refl _, fun _ _ h _ _ => h, hcB, cB, ⟨[], by simp, .inl ⟨rfl, rfl⟩, by simp⟩, ⟨[], by simp, .inl ⟨rfl, rfl⟩, by simp⟩, fsh_nil _, fsh_nil _, fun j => .inl fun o n c e => by cases e⟩
        refine w_loop (I4c h4 hB h6.length h9.length (.slc id9 0 g.S.length cap9) Sg (gen g) 0 x X g) (cKK [5, 6, 7, 8, 9, 73, 74, 75] g.C.length 75) (R4c h4 hB h6.length h9.length (.slc id9 0 g.S.length cap9) Sg (gen g) 0 x g) ⟨0, .nilS, .nilS, Nat.zero_le _, q0, rfl⟩ (round4c h4 hB h6.length h9.length _ Sg (gen g) 0 x X g hf (hc.x.ext x4) (by omega) (by omega) (by omega) (by omega) (by omega) (by omega)) ?_
        rintro ex E' hC ⟨rfl, X1, X2, u1, u2, u3, u4, u5, sC, rfl⟩
        obtain ⟨kc1, kc2⟩ := sC.codes
        have iC : IsInts hC (.slc id9 0 g.S.length cap9) (swS x g.S) := IsSl.keep iB fun j b hj ht => sC.kp j b hj (fun e => by subst e; exact ht (n6 _ (Nat.le_refl _))) (fun e => by subst e; exact ht (n6 _ (by omega)))
        have jC : IsInts hC Sg g.S := IsSl.ext hc.s (x4.trans sC.e)
        have c8C := sC.c8
        have c9C := sC.c9
        have ka := call17g hC X1 (.slc id9 0 g.S.length cap9) (swG x g) (hf.sw x) (hg.sw hxl) ⟨kc1, iC⟩
        have kb := fun H (e : Ext hC H) => call17g H X2 Sg (bkG g) hf.bk hg.bk ⟨kc2.ext e, IsSl.ext jC e⟩
        rw [kg1] at ka
        rw [kg2] at kb
        generalize gen g = G at *
        repeat' (first | refine w_seq ?_ | refine w_seqN ?_ | refine w_blkX ?_ | refine w_ret ?_ | refine w_ops ?_ | ((refine i_nil ?_); first | refine w_end1 rfl ?_ | refine w_end5 rfl rfl rfl rfl rfl ?_ | refine w_end6 rfl rfl rfl rfl rfl rfl ?_) | ((refine i_cons ?_); first | (have z := eD; refine k_ld3 rfl c9D ?_) | refine k_ld3 rfl c8C ?_ | (refine k_call rfl ka ?_; rintro v hD ⟨eD, rfl, -⟩; have c9D := c9C.ext eD) | (refine k_call rfl (kb hD eD) ?_; rintro v hE ⟨eE, rfl, -⟩) | refine k_want rfl ?_ | refine k_mv rfl ?_ | refine k_pickT rfl rfl ?_ | refine k_geqT rfl rfl (by omega) ?_ | refine k_eqlT rfl rfl (by omega) ?_ | refine k_ok rfl rfl ?_))
        exact ⟨.inr rfl, rfl⟩
    · have kv := fun H (e : Ext h0 H) => vldF hf hg H X Sg (hc.ext e)
      repeat' (first | refine w_seq ?_ | refine w_seqN ?_ | refine w_seqR ?_ | refine w_ret ?_ | refine w_ops ?_ | ((refine i_cond ?_); refine w_condT rfl ?_) | ((refine i_nil ?_); first | refine w_end1 rfl ?_ | refine w_end2 rfl rfl ?_ | refine w_end3 rfl rfl rfl ?_) | ((refine i_cons ?_); first | (refine k_box rfl rfl ?_; intro h1 e1 l1 b1) | (have z := e3; refine k_call rfl (awake_callT _) ?_; rintro v hz ⟨rfl, rfl⟩) | (refine k_call rfl (awake_callT _) ?_; rintro v ha ⟨rfl, rfl⟩) | (have z := e2; refine k_ldA rfl b2 rfl ?_) | refine k_ldA rfl b1 rfl ?_ | (refine k_call rfl (kf ha e1) ?_; rintro v h2 ⟨e2, rfl⟩; have b2 := b1.ext e2; have x2 := e1.trans e2) | (refine k_call rfl (kv h2 x2) ?_; rintro v h3 ⟨e3, rfl⟩) | refine k_skip rfl ?_ | refine k_want rfl ?_ | refine k_mv rfl ?_ | refine k_pickT rfl rfl ?_ | refine k_pickF rfl rfl ?_ | refine k_notT rfl ?_ | refine k_notF rfl ?_))
      all_goals exact ⟨.inr rfl, rfl⟩
  · have kf := fun H (e : Ext h0 H) => fewF H X Sg g hw (hc.ext e) hfw
    repeat' (first | refine w_seq ?_ | refine w_seqN ?_ | refine w_seqR ?_ | refine w_ret ?_ | refine w_ops ?_ | ((refine i_cond ?_); refine w_condT rfl ?_) | ((refine i_nil ?_); first | refine w_end1 rfl ?_ | refine w_end2 rfl rfl ?_ | refine w_end3 rfl rfl rfl ?_) | ((refine i_cons ?_); first | (refine k_box rfl rfl ?_; intro h1 e1 l1 b1) | (have z := e2; refine k_call rfl (awake_callT _) ?_; rintro v hz ⟨rfl, rfl⟩) | (refine k_call rfl (awake_callT _) ?_; rintro v ha ⟨rfl, rfl⟩) | refine k_ldA rfl b1 rfl ?_ | (refine k_call rfl (kf ha e1) ?_; rintro v h2 ⟨e2, rfl⟩) | refine k_skip rfl ?_ | refine k_want rfl ?_ | refine k_mv rfl ?_ | refine k_pickT rfl rfl ?_ | refine k_pickF rfl rfl ?_ | refine k_notT rfl ?_ | refine k_notF rfl ?_))
    exact ⟨.inr rfl, rfl⟩
end Go.Proofs.YtleoalcbgpjieaaDoor
