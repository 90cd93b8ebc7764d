/- The law GaussEven, walked in whatever order. -/
import Derived.Test.YtleoalcbgpjieaaDoorEW2
import Derived.Test.YtleoalcbgpjieaaDoorGC
import Derived.Test.YtleoalcbgpjieaaDoorT5
namespace Go.Proofs.YtleoalcbgpjieaaDoor
open Go.Ab
set_option linter.unusedVariables false
set_option linter.unusedSimpArgs false
set_option linter.unusedSectionVars false
set_option maxRecDepth 20000
set_option maxHeartbeats 4000000

section
variable {A H : Heap} {m : Nat} {es : EsG} {xs ms : List Int} {l : Int}
noncomputable abbrev WW (xs ms : List Int) : List T3 := visT (codeC (strs xs ms))
theorem keys_perm (hF : Front xs ms l) (st : Ats A H m (WW xs ms) es) : (es.map fun p => p.1.headD 0).Perm ((List.range xs.length).map fun k : Nat => (k : Int)) := by
  rw [List.perm_ext_iff_of_nodup ?_ ?_]
  · intro c
    rw [List.mem_map, List.mem_map]
    constructor
    · rintro ⟨p, hp, rfl⟩
      obtain ⟨c, h1, h2⟩ := st.key p hp
      obtain ⟨k, rfl, h3⟩ := (vis_keys hF (strs_cov hF)).1 h2
      exact ⟨k, List.mem_range.2 h3, by rw [h1]; rfl⟩
    · rintro ⟨k, hk, rfl⟩
      obtain ⟨p, h1, h2⟩ := st.all (k : Int) ((vis_keys hF (strs_cov hF)).2 ⟨k, rfl, List.mem_range.1 hk⟩)
      exact ⟨p, h1, by rw [h2]; rfl⟩
  · have h := st.nd
    unfold List.Nodup at h ⊢
    rw [List.pairwise_map] at h ⊢
    refine List.Pairwise.imp_of_mem ?_ h
    intro p q hp hq hne e
    obtain ⟨c, h1, -⟩ := st.key p hp
    obtain ⟨d, h2, -⟩ := st.key q hq
    rw [h1, h2] at e hne
    have : c = d := e
    exact hne (by rw [this])
  · unfold List.Nodup
    rw [List.pairwise_map]
    exact List.Pairwise.imp (fun h e => h (by omega)) List.nodup_range
theorem ats_len (hF : Front xs ms l) (st : Ats A H m (WW xs ms) es) : es.length = xs.length := by
  have := (keys_perm hF st).length_eq
  simpa using this
theorem full_of (hF : Front xs ms l) (hS : Sph ms xs.length) (st : Ats A H m (WW xs ms) es) : Full (WW xs ms) es := by
  have hn := hF.n64
  refine ⟨fun p hp => ?_, by rw [ats_len hF st]; omega⟩
  obtain ⟨c, h1, h2⟩ := st.key p hp
  obtain ⟨k, rfl, h3⟩ := (vis_keys hF (strs_cov hF)).1 h2
  obtain ⟨g0, i0, k0, g1, i1, k1, q1, q2, q3, q4, q5⟩ := two_at hF (strs_cov hF) h3
  have hc := conP_at hF q1
  obtain ⟨-, L, hL, hL0⟩ := allG_mem.1 (show (g0, i0, k0) ∈ allG 0 (strs xs ms) from (List.mem_filter.1 (by rw [q1]; simp : (g0, i0, k0) ∈ (allG 0 (strs xs ms)).filter fun t => t.1 / 4 == k)).1)
  obtain ⟨-, M, hM, hM0⟩ := allG_mem.1 (show (g1, i1, k1) ∈ allG 0 (strs xs ms) from (List.mem_filter.1 (by rw [q1]; simp : (g1, i1, k1) ∈ (allG 0 (strs xs ms)).filter fun t => t.1 / 4 == k)).1)
  rw [Nat.sub_zero] at hL hM
  have hsl := strs_len hF
  have b1 := (List.getElem?_eq_some_iff.1 hL).1
  have b2 := (List.getElem?_eq_some_iff.1 hM).1
  have b3 := (List.getElem?_eq_some_iff.1 hL0).1
  have b4 := (List.getElem?_eq_some_iff.1 hM0).1
  have b5 := (strs_small hF L (List.mem_of_getElem? hL)).1
  have b6 := (strs_small hF M (List.mem_of_getElem? hM)).1
  refine ⟨i0, k0, i1, k1, by rw [h1]; exact hc, by omega, by omega, by omega, by omega, fun e => ?_⟩
  subst e
  rw [hL] at hM
  obtain rfl := Option.some.inj hM
  exact ⟨by omega, self_odd hF hS (strs_vis4 hF) (List.mem_of_getElem? hL) hL0 hM0 q4⟩
theorem filterMap_idx {α β : Type} (f : α → Option β) : ∀ es : List α, (List.range es.length).filterMap (fun i => (es[i]?).bind f) = es.filterMap f
  | [] => rfl
  | a :: es => by
    have ih := filterMap_idx f es
    rw [List.length_cons, List.range_succ_eq_map, List.filterMap_cons, List.filterMap_map, List.filterMap_cons]
    have e : ((fun i => ((a :: es)[i]?).bind f) ∘ Nat.succ) = fun i => (es[i]?).bind f := by
      funext i
      simp [Function.comp]
    rw [e, ih]
    rfl
theorem even_all (hF : Front xs ms l) (hS : Sph ms xs.length) (st : Ats A H m (WW xs ms) es) {seen : List Nat} (hn : seen.Nodup) (hs : ∀ i, i ∈ seen ↔ i < es.length) (q : Int × Int) : (Qs (WW xs ms) es seen).count q % 2 = 0 := by
  have p1 : seen.Perm (List.range es.length) := by
    rw [List.perm_ext_iff_of_nodup hn List.nodup_range]
    intro i
    rw [hs, List.mem_range]
  have p2 : (Qs (WW xs ms) es seen).Perm ((List.range es.length).filterMap (prE (WW xs ms) es)) := p1.filterMap _
  have e1 : (List.range es.length).filterMap (prE (WW xs ms) es) = es.filterMap fun p => prL (conP (WW xs ms) (p.1.headD 0)) := filterMap_idx _ es
  have e2 : (es.filterMap fun p => prL (conP (WW xs ms) (p.1.headD 0))) = (es.map fun p => p.1.headD 0).filterMap fun c => prL (conP (WW xs ms) c) := by
    rw [List.filterMap_map]; rfl
  have p3 := (keys_perm hF st).filterMap fun c => prL (conP (WW xs ms) c)
  have e3 : (((List.range xs.length).map fun k : Nat => (k : Int)).filterMap fun c => prL (conP (WW xs ms) c)) = (List.range xs.length).filterMap fun c : Nat => prL (conP (WW xs ms) (c : Int)) := by
    rw [List.filterMap_map]; rfl
  rw [e1, e2] at p2
  rw [e3] at p3
  rw [(p2.trans p3).count_eq]
  exact even_pairs hF hS (strs_vis4 hF) q
theorem ats_nil (A : Heap) : Ats A (A ++ [MG zA []]) A.length [] [] :=
  ⟨⟨_, rfl⟩, Nat.le_refl _, by simp, okA, by simp, by simp, by simp, by simp, by simp⟩
theorem Cnts.even {es2 : EsG} {Q : List (Int × Int)} (c : Cnts es2 Q) (hq : ∀ q, Q.count q % 2 = 0) (hl : Q.length ≤ 1000000) : ∀ p ∈ es2, ∃ k : Nat, p.2 = .int .i64 (k : Nat) ∧ k % 2 = 0 ∧ k ≤ 1000000 := fun p hp => by
  obtain ⟨q, -, h2⟩ := c.key p hp
  have := List.count_le_length (a := q) (l := Q)
  exact ⟨_, h2, hq q, by omega⟩
end
theorem wRound_mono {I : Env → Heap → Prop} {μ : Env → Heap → Nat} {k : Nat} {R R' : Ex → Env → Heap → Prop} (h : ∀ ex E h, R ex E h → R' ex E h) : ∀ ex E h, wRound I μ k R ex E h → wRound I μ k R' ex E h := fun ex E hp => by
  cases ex with
  | nm => exact id
  | ex i => exact h _ _ _
  | rt => exact h _ _ _
attribute [local irreducible] wOps wA wSeq wBlk wRound wRoundI wOpsD wOpsS
variable [Base]
theorem rw5 (hk : HKok Tryd.prog HKt) (h0 : Heap) (s : SV) (xs : List Int) (hx : IsInts h0 s xs) (m : SV) (ms : List Int) (hs : IsInts h0 m ms) (l : Int) (hl : -9223372036854775808 ≤ l ∧ l ≤ 9223372036854775807) (n : Nat) :
    RW Tryd.prog n a5.body (params 0 [.agg [s, m, .int .i64 l]]) h0 (fun ex E' h' => (ex = .nm ∨ ex = .rt) ∧ resultsA a5.res E' h' = some (.sc (.bool true))) := by
  show RW Tryd.prog n b5 _ _ _
  have hxl : lenS false s = some (xs.length : Int) := IsSl.len hx
  have k1 := fun H (e : Ext h0 H) => call18 (HK := HKt) rfl rfl rfl rfl rfl H s m l xs ms (IsSl.ext hx e) (IsSl.ext hs e)
  by_cases h14 : xs.length ≤ 14
  · by_cases hV : PV xs ms l
    · have hF := hV.1
      have hS := hV.2
      have hsl := strs_len hF
      have hfit := codeG_fits hF
      refine RW.seq (RW.det ft_ok hk ?_)
      repeat' (first | refine w_seqN ?_ | refine w_ops ?_ | ((refine i_nil ?_); refine w_end1 rfl ?_) | ((refine i_cons ?_); first | (refine k_box rfl rfl ?_; intro h1 e1 l1 b1) | refine k_mv rfl ?_))
      refine RW.seq (RW.det ft_ok hk ?_)
      repeat' (first | refine w_seq ?_ | refine w_seqN ?_ | refine w_skip ?_ | refine w_ops ?_ | ((refine i_cond ?_); refine w_condF rfl ?_) | ((refine i_nil ?_); refine w_end2 rfl rfl ?_) | ((refine i_cons ?_); first | (refine k_call rfl (awake_callT _) ?_; rintro v ha ⟨rfl, rfl⟩) | refine k_fldA rfl ?_ | refine k_ldb rfl b1 rfl ?_ | refine k_len rfl hxl ?_ | (refine k_call rfl (k1 ha e1) ?_; rintro v h2 ⟨e2, bb, rfl, q⟩; obtain rfl := q.2 hV; have b2 := b1.ext e2) | refine k_ldA rfl b1 rfl ?_ | refine k_want rfl ?_ | refine k_mv rfl ?_ | refine k_pickF rfl rfl ?_ | refine k_notT rfl ?_ | refine k_gtrF rfl rfl (by omega) ?_))
      have k10 := call10 h2 s m l xs ms (IsSl.ext hx (e1.trans e2)) (IsSl.ext hs (e1.trans e2))
      refine RW.seq (RW.det ft_ok hk ?_)
      repeat' (first | refine w_seqN ?_ | refine w_ops ?_ | ((refine i_nil ?_); refine w_end3 rfl rfl rfl ?_) | ((refine i_cons ?_); first | refine k_ldA rfl b2 rfl ?_ | (refine k_call rfl k10 ?_; rintro v h3 ⟨e3, hR⟩; obtain ⟨Y, Sg, rfl, ic⟩ := (hR.resolve_right fun h => h.1 hV).2) | (refine k_new3 ?_; intro h4 e4 l4 c4) | (refine k_st3e rfl rfl c4 (hx := h3) e4 (Nat.le_refl _) ?_; intro h5 e5 c5) | refine k_mv rfl ?_ | refine k_ok rfl rfl ?_))
      have icA := ic.ext e5
      have bA := b2.ext (e3.trans e5)
      have lY : lenS false Y = some ((codeG xs ms l).C.length : Int) := ic.x.len
      refine RW.seq (RW.det ft_ok hk ?_)
      repeat' (first | refine w_seq ?_ | refine w_seqN ?_ | refine w_skip ?_ | refine w_ops ?_ | ((refine i_cond ?_); refine w_condF rfl ?_) | ((refine i_nil ?_); refine w_end3 rfl rfl rfl ?_) | ((refine i_cons ?_); first | refine k_mv rfl ?_ | refine k_neqF rfl rfl (by omega) ?_))
      refine RW.seq (RW.det ft_ok hk ?_)
      repeat' (first | refine w_seqN ?_ | refine w_ops ?_ | ((refine i_nil ?_); refine w_end3 rfl rfl rfl ?_) | ((refine i_cons ?_); first | refine g_mpM okA ?_ | refine k_mv rfl ?_))
      have cA := c5.at.ext (show Ext h5 (h5 ++ [MG zA []]) from ⟨_, rfl⟩)
      refine RW.seq (RW.det ft_ok hk ?_)
      repeat' (first | refine w_seq ?_ | refine w_seqN ?_ | refine w_blk ?_ | refine w_ops ?_ | ((refine i_nil ?_); refine w_end6 rfl rfl rfl rfl rfl rfl ?_) | ((refine i_cons ?_); first | refine k_fldA rfl ?_ | refine k_ldb rfl cA rfl ?_ | refine k_len rfl lY ?_ | refine k_mv rfl ?_))
      refine w_loop (I5c h5 h0.length h3.length h5.length Y (codeG xs ms l).C) (cnt (codeG xs ms l).C.length 40) (R5c h5 h0.length h3.length h5.length (codeG xs ms l).C) ⟨0, [], Nat.zero_le _, ats_nil h5, rfl⟩ (round5c h5 _ _ _ Y Sg (codeG xs ms l) icA hfit) ?_
      rintro ex E' H ⟨rfl, es, st, u, v, w, x, rfl⟩
      repeat' (first | refine w_seqN ?_ | refine w_blkX ?_)
      have bH := bA.ext st.ext
      have cH := c5.at.ext st.ext
      have hFull := full_of hF hS st
      have hlen := ats_len hF st
      refine RW.seq (RW.det ft_ok hk ?_)
      repeat' (first | refine w_seqN ?_ | refine w_ops ?_ | ((refine i_nil ?_); refine w_end4 rfl rfl rfl rfl ?_) | ((refine i_cons ?_); first | refine g_mpM okMM ?_ | refine k_mv rfl ?_))
      have gm : ∀ T : Heap, (H ++ T)[h5.length]? = some (MG zA es) := fun T => mono_app _ _ st.blk
      refine RW.seq (RW.seq (RW.det ft_ok hk ?_))
      repeat' (first | refine w_seqN ?_ | refine w_ops ?_ | ((refine i_nil ?_); refine w_end5 rfl rfl rfl rfl rfl ?_) | ((refine i_cons ?_); first | refine g_mpR st.ok rfl (gm _) ?_ | refine k_mv rfl ?_))
      rw [List.append_assoc, List.length_append]
      refine RW.block (RW.loop (I5m H h0.length h3.length h5.length (WW xs ms) es) (leftM es.length 67) (fun E h hI => RW.mono (round5m H h0.length h3.length h5.length (WW xs ms) es hk st hFull cH lY n E h hI) (wRound_mono ?_)) ⟨[], [], by simp, by simp, cnts_nil, rfl, rfl, rfl⟩)
      rintro ex E' h' ⟨rfl, seen, es2, hnd, hall, hC, rfl, a, b', c, rfl⟩
      have hev := hC.even (even_all hF hS st hnd hall) (by
        have h1 : (Qs (WW xs ms) es seen).length ≤ seen.length := List.length_filterMap_le _ _
        have h2 := seen_len hnd fun i hi => (hall i).1 hi
        have := hFull.len
        omega)
      repeat' (first | refine w_seqN ?_ | refine w_blkX ?_)
      have g2 : ∀ x y : Blk, (H ++ [x, y])[H.length]? = some x := fun x y => by simp
      refine RW.seq (RW.seq (RW.det ft_ok hk ?_))
      repeat' (first | refine w_seqN ?_ | refine w_ops ?_ | ((refine i_nil ?_); refine w_end3 rfl rfl rfl ?_) | ((refine i_cons ?_); first | refine g_mpR hC.ok rfl (g2 _ _) ?_ | refine k_mv rfl ?_))
      rw [List.append_assoc, List.length_append]
      refine RW.block (RW.loop (I5n H h0.length h5.length es2 (itA h5.length es seen)) (leftM es2.length 110) (fun E h hI => RW.mono (round5n H h0.length h5.length es2 (itA h5.length es seen) hk hC.ok hev n E h hI) (wRound_mono ?_)) ⟨[], by simp, by simp, rfl, rfl, rfl⟩)
      rintro ex E' h' ⟨rfl, B2, rfl, a2, c2, rfl⟩
      have bF : Blk.At (H ++ [MG zM es2, itA h5.length es seen, B2]) h0.length [s, m, .int .i64 l] := bH.ext ⟨_, rfl⟩
      repeat' (first | refine w_seqN ?_ | refine w_blkX ?_)
      refine RW.det ft_ok hk ?_
      repeat' (first | refine w_seq ?_ | refine w_seqN ?_ | refine w_ret ?_ | refine w_ops ?_ | ((refine i_nil ?_); refine w_end1 rfl ?_) | ((refine i_cons ?_); first | refine g_mpN st.ok rfl (gm _) ?_ | refine k_fldA rfl ?_ | refine k_ldb rfl bF rfl ?_ | refine k_len rfl hxl ?_ | refine k_mv rfl ?_ | refine k_eqlT rfl rfl (by omega) ?_))
      exact ⟨.inr rfl, rfl⟩
    · have hbF : ∀ bb : Bool, (bb = true ↔ PV xs ms l) → bb = false := fun bb q => by cases bb with
        | false => rfl
        | true => exact absurd (q.1 rfl) hV
      refine RW.det ft_ok hk ?_
      repeat' (first | refine w_seq ?_ | refine w_seqN ?_ | refine w_seqR ?_ | refine w_ret ?_ | refine w_ops ?_ | ((refine i_cond ?_); refine w_condT rfl ?_) | ((refine i_nil ?_); first | refine w_end1 rfl ?_ | refine w_end2 rfl rfl ?_) | ((refine i_cons ?_); first | (refine k_box rfl rfl ?_; intro h1 e1 l1 b1) | (have e2' := e2; refine k_call rfl (awake_callT _) ?_; rintro v hc ⟨rfl, rfl⟩) | (refine k_call rfl (awake_callT _) ?_; rintro v ha ⟨rfl, rfl⟩) | refine k_fldA rfl ?_ | refine k_ldb rfl b1 rfl ?_ | refine k_len rfl hxl ?_ | (refine k_call rfl (k1 ha e1) ?_; rintro v h2 ⟨e2, bb, rfl, q⟩; obtain rfl := hbF _ q; have b2 := b1.ext e2) | refine k_ldA rfl b1 rfl ?_ | refine k_want rfl ?_ | refine k_mv rfl ?_ | refine k_pickF rfl rfl ?_ | refine k_notT rfl ?_ | refine k_notF rfl ?_ | refine k_gtrF rfl rfl (by omega) ?_))
      exact ⟨.inr rfl, rfl⟩
  · refine RW.det ft_ok hk ?_
    repeat' (first | refine w_seq ?_ | refine w_seqN ?_ | refine w_seqR ?_ | refine w_ret ?_ | refine w_ops ?_ | ((refine i_cond ?_); refine w_condT rfl ?_) | ((refine i_nil ?_); first | refine w_end1 rfl ?_ | refine w_end2 rfl rfl ?_) | ((refine i_cons ?_); first | (refine k_box rfl rfl ?_; intro h1 e1 l1 b1) | (refine k_call rfl (awake_callT _) ?_; rintro v ha ⟨rfl, rfl⟩) | refine k_fldA rfl ?_ | refine k_ldb rfl b1 rfl ?_ | refine k_len rfl hxl ?_ | refine k_skip rfl ?_ | refine k_want rfl ?_ | refine k_mv rfl ?_ | refine k_pickT rfl rfl ?_ | refine k_pickF rfl rfl ?_ | refine k_notT rfl ?_ | refine k_gtrT rfl rfl (by omega) ?_))
    exact ⟨.inr rfl, rfl⟩
end Go.Proofs.YtleoalcbgpjieaaDoor
