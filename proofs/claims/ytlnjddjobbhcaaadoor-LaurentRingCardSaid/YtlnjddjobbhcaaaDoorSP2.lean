/- Sparse products: the sums in the keys' order; contract. -/
import Derived.Test.YtlnjddjobbhcaaaDoorSP1
import Derived.Test.YtlnjddjobbhcaaaDoorPZ
import Derived.Test.YtlnjddjobbhcaaaDoorV2
import Derived.Test.YtlnjddjobbhcaaaDoorC2
namespace Go.Proofs.YtlnjddjobbhcaaaDoor
open Go.Ab
set_option linter.unusedVariables false
set_option linter.unusedSimpArgs false
set_option maxRecDepth 20000
set_option maxHeartbeats 8000000
attribute [local irreducible] wOps wA wSeq wBlk wRound wRoundI wOpsD wOpsS

/-! ### Plain -/
/-- The terms of the keys. -/
def outL (f : Int → Int) (l : List Int) : List Tm := l.flatMap fun k => put k (f k)
theorem outL_snoc (f : Int → Int) (l : List Int) (k : Int) : outL f (l ++ [k]) = outL f l ++ put k (f k) := by simp [outL]
theorem outL_len (f : Int → Int) : ∀ l : List Int, (outL f l).length ≤ l.length
  | [] => Nat.le_refl _
  | k :: l => by
    have := outL_len f l
    have e : outL f (k :: l) = put k (f k) ++ outL f l := rfl
    have h := put_len k (f k)
    rw [e, List.length_append, List.length_cons]; omega
theorem outL_mem {f : Int → Int} {l : List Int} {t : Tm} : t ∈ outL f l ↔ t.1 ∈ l ∧ t.2 = f t.1 ∧ t.2 ≠ 0 := by
  unfold outL
  rw [List.mem_flatMap]
  constructor
  · rintro ⟨k, hk, ht⟩
    obtain ⟨h1, h2⟩ := put_mem ht
    rw [h1]
    exact ⟨hk, rfl, h2⟩
  · rintro ⟨h1, h2, h3⟩
    refine ⟨t.1, h1, ?_⟩
    unfold put
    rw [if_neg (by rw [← h2]; exact h3), ← h2]
    simp
theorem outL_can {f : Int → Int} : ∀ {l : List Int}, l.Pairwise (· < ·) → Can (outL f l)
  | [], _ => .nil
  | k :: l, h => by
    obtain ⟨h1, h2⟩ := List.pairwise_cons.1 h
    exact put_can (outL_can h2) fun u hu => h1 _ (outL_mem.1 hu).1
theorem cf_outL (f : Int → Int) (e : Int) : ∀ {l : List Int}, l.Nodup → cf (outL f l) e = if e ∈ l then f e else 0
  | [], _ => rfl
  | k :: l, h => by
    obtain ⟨h1, h2⟩ := List.nodup_cons.1 h
    have e1 : outL f (k :: l) = put k (f k) ++ outL f l := rfl
    have e2 : cf (put k (f k)) e = f k * dl e k := S_put _ _ _
    rw [e1, cf_app, cf_outL f e h2, e2]
    by_cases hk : e = k
    · subst hk
      rw [dl_self, if_neg h1, if_pos (List.mem_cons_self ..)]; omega
    · rw [dl_ne (fun e => hk e.symm), Int.mul_zero, Int.zero_add]
      by_cases hl : e ∈ l
      · rw [if_pos hl, if_pos (List.mem_cons_of_mem _ hl)]
      · rw [if_neg hl, if_neg (by simp [hk, hl])]
abbrev srt (K : List Int) : List Int := K.mergeSort fun x y => decide (x ≤ y)
theorem srt_perm (K : List Int) : (srt K).Perm K := List.mergeSort_perm _ _
theorem srt_lt {K : List Int} (h : K.Nodup) : (srt K).Pairwise (· < ·) := by
  have h1 : (srt K).Pairwise fun a b => decide (a ≤ b) = true := List.pairwise_mergeSort (fun a b c h1 h2 => by simp only [decide_eq_true_eq] at *; omega) (fun a b => by simp only [Bool.or_eq_true, decide_eq_true_eq]; omega) K
  have h2 : (srt K).Nodup := (srt_perm K).nodup_iff.2 h
  exact List.Pairwise.imp₂ (fun a b h1 h2 => by simp only [decide_eq_true_eq] at h1; exact Int.lt_iff_le_and_ne.2 ⟨h1, h2⟩) h1 h2
/-- The sums in the keys' order are the product. -/
theorem outL_mul {f : Int → Int} {K : List Int} {lo : Int} {n : Nat} (hn : K.Nodup) (hr : ∀ e ∈ K, lo ≤ e ∧ e < lo + n) (hz : ∀ e, e ∉ K → f e = 0) : outL f (srt K) = fromC f lo n :=
  Can.ext (outL_can (srt_lt hn)) (fromC_can f lo n) fun e => by
    rw [cf_outL f e ((srt_perm K).nodup_iff.2 hn), cf_fromC]
    by_cases he : e ∈ K
    · rw [if_pos ((srt_perm K).mem_iff.2 he), if_pos (hr e he)]
    · rw [if_neg (fun h => he ((srt_perm K).mem_iff.1 h))]
      split
      · exact (hz e he).symm
      · rfl
/-! ### The hooks -/
theorem keys_c (h : Heap) (m : Nat) : ∃ v h', Cal FT HKt 77 [.sc (.mapv m)] h v h' ∧ h' = h ++ [.cells [.mapv m] true ⟨0, some 106⟩] ∧ v = .sc (.fn 93 [(h.length, 0)]) :=
  ⟨_, _, Cal.hook (g := keysHook 93 106) rfl rfl, rfl, rfl⟩
theorem keysZ_W (g : Int → SV × SV) (K : List Int) : keysZ zIW (prW (esF g K)) = K := by
  unfold keysZ
  rw [keysIW]
  unfold esF
  rw [List.map_map, List.map_map]
  have : (((fun k : List Int => k.headD 0) ∘ fun p : Int × (SV × SV) => [p.1]) ∘ fun k => (k, g k)) = id := by funext k; rfl
  rw [this, List.map_id]
theorem sorted_c {h : Heap} {p m : Nat} {g : Int → SV × SV} {K : List Int} (hp : h[p]? = some (.cells [.mapv m] true ⟨0, some 106⟩)) (hm : h[m]? = some (MBW (esF g K))) (hn : K.Nodup) (hr : ∀ k ∈ K, -9223372036854775808 ≤ k ∧ k ≤ 9223372036854775807) (hl : K.length ≤ 1000000) (hne : K ≠ []) :
    ∃ v h', Cal FT HKt 76 [.sc (.fn 93 [(p, 0)])] h v h' ∧ h' = h ++ [.cells ((srt K).map (.int .i64)) false 1] ∧ v = .sc (.slc h.length 0 K.length none) := by
  have hk := keysZ_W g K
  have hcs : prW (esF g K) ≠ [] := fun e => by
    have := prW_len (esF g K)
    rw [e] at this
    have h2 : 0 < K.length := List.length_pos_iff.2 hne
    simp [esF] at this
    omega
  refine ⟨_, _, Cal.hook (g := sortedHook 93 106) rfl (by
    simp only [sortedHook, hp, hm]
    rw [hk, if_pos ⟨trivial, trivial, ⟨by decide, by decide, by decide⟩, hcs, hn, hr, hl⟩]), rfl, rfl⟩
theorem rdRow {h : Heap} {id : Nat} {ks : List Int} {rw' : Bool} {i : Nat} {k : Int} (hb : h[id]? = some (.cells (ks.map (.int .i64)) rw' 1)) (hk : ks[i]? = some k) : readN h id (0 + i * 1) 1 = some [.int .i64 k] :=
  rdS (L := h) hb (by simp [hk])
theorem ownD_not {h0 h : Heap} {s : SV} {ps : List P2} (ho : OwnD h0 h s ps) {j : Nat} {cs : List SV} {rw' : Bool} {z : ESz} (hz : z ≠ 2) (hj : h[j]? = some (.cells cs rw' z)) : NotAt s j := by
  rcases ho with ⟨rfl, -⟩ | ⟨id, cap, bl, rfl, h1, h2, -⟩
  · intro o n c e; cases e
  · intro o n c e; cases e
    rw [hj] at h2; simp at h2
    exact absurd h2.2.2 hz
/-! ### The sums, one after the other -/
structure St42 (h0 h : Heap) (q4 q5 q6 m sid : Nat) (s : SV) (f : Int → Int) (K ks : List Int) (r : List Tm) : Prop where
  e : Ext h0 h
  c4 : Cel h q4 (.bool false) .nilS
  b5 : Cel1 h q5 (.mapv m)
  mp : h[m]? = some (MBW (esW f K))
  c6 : Cel h q6 (.bool false) s
  o : OwnD h0 h s (tms r)
  sb : h[sid]? = some (.cells (ks.map (.int .i64)) false 1)
theorem St42.ext {h0 h h' : Heap} {q4 q5 q6 m sid : Nat} {s : SV} {f : Int → Int} {K ks : List Int} {r : List Tm} (x : St42 h0 h q4 q5 q6 m sid s f K ks r) (he : Ext h h') : St42 h0 h' q4 q5 q6 m sid s f K ks r :=
  ⟨x.e.trans he, x.c4.ext he, x.b5.ext he, he.get _ _ x.mp, x.c6.ext he, x.o.ext he, he.get _ _ x.sb⟩
def I42 (h0 : Heap) (q4 q5 q6 m sid : Nat) (f : Int → Int) (K ks : List Int) (E : Env) (h : Heap) : Prop := ∃ (i : Nat) (s : SV), i ≤ ks.length ∧ (∀ k ∈ ks.take i, (f k).natAbs ≤ cM) ∧ St42 h0 h q4 q5 q6 m sid s f K ks (outL f (ks.take i)) ∧
  E.keep [4, 5, 6, 18, 19, 20] = [(4, some (.sc (.ptr q4 0))), (5, some (.sc (.ptr q5 0))), (6, some (.sc (.ptr q6 0))), (18, some (.sc (.slc sid 0 ks.length none))), (19, some (.sc (.int .i64 (ks.length : Nat)))), (20, some (.sc (.int .i64 (i : Nat))))]
def R42 (h0 : Heap) (q4 q5 q6 m sid : Nat) (f : Int → Int) (K ks : List Int) (ex : Ex) (E : Env) (h : Heap) : Prop :=
  (ex = .ex 0 ∧ ∃ s, (∀ k ∈ ks, (f k).natAbs ≤ cM) ∧ St42 h0 h q4 q5 q6 m sid s f K ks (outL f ks) ∧ ∃ a b c d e, E = [(4, some (.sc (.ptr q4 0))), (5, a), (6, some (.sc (.ptr q6 0))), (18, b), (19, c), (20, d), (21, e)]) ∨
  (ex = .rt ∧ ¬ (∀ k ∈ ks, (f k).natAbs ≤ cM) ∧ Ext h0 h ∧ Cel h q4 (.bool true) .nilS ∧ E = [(4, some (.sc (.ptr q4 0)))])
theorem round42 (h0 : Heap) (q4 q5 q6 m sid : Nat) (f : Int → Int) (K ks : List Int) (hn : ks.length ≤ 1000000) (hf : ∀ e, -170141183460469231731687303715884105728 < f e ∧ f e < 170141183460469231731687303715884105728) (hz : ∀ e, e ∉ K → f e = 0) (hks : ∀ k ∈ ks, -9223372036854775808 ≤ k ∧ k ≤ 9223372036854775807) (l4 : h0.length ≤ q4) (l6 : h0.length ≤ q6) (n46 : q4 ≠ q6) (E : Env) (h : Heap) (hI : I42 h0 q4 q5 q6 m sid f K ks E h) :
    wA FT HKt b42L0 (E.keep [4, 5, 6, 18, 19, 20]) h (wRound (I42 h0 q4 q5 q6 m sid f K ks) (cK [4, 5, 6, 18, 19, 20] ks.length 20) (cK [4, 5, 6, 18, 19, 20] ks.length 20 E h) (R42 h0 q4 q5 q6 m sid f K ks)) := by
  obtain ⟨i, s, hi, hsm, st, hE⟩ := hI
  have hm : cK [4, 5, 6, 18, 19, 20] ks.length 20 E h = ks.length - i := by unfold cK; rw [hE]; rfl
  rw [hm, hE]
  by_cases hlt : i < ks.length
  · obtain ⟨k, hk⟩ : ∃ k, ks[i]? = some k := ⟨_, List.getElem?_eq_getElem hlt⟩
    have hkr := hks k (List.mem_of_getElem? hk)
    have r0 := rdRow st.sb hk
    have k45 := fun H => call45 H (f k) (hf _)
    have tk : ks.take (i + 1) = ks.take i ++ [k] := by rw [List.take_add_one, hk]; rfl
    have fl := outL_len f (ks.take i)
    rw [List.length_take] at fl
    have fs := outL_snoc f (ks.take i) k
    rw [← tk] at fs
    have hg : (getW (esW f K) k).getD (.int .u64 0, .int .u64 0) = wdP (f k) := by
      rw [getW_F]
      split
      · rfl
      · rename_i hn
        rw [hz k hn]
        rfl
    have hmem : ∀ k', k' ∈ ks.take (i + 1) ↔ k' ∈ ks.take i ∨ k' = k := fun k' => by rw [tk]; simp
    have n4 := st.c4.lt
    have n0 := st.e.len
    by_cases hb : (f k).natAbs ≤ cM
    · have hsm2 : ∀ k' ∈ ks.take (i + 1), (f k').natAbs ≤ cM := fun k' hk' => by
        rcases (hmem k').1 hk' with h1 | rfl
        · exact hsm k' h1
        · exact hb
      have e45 : smV (f k) = f k := by unfold smV; rw [if_pos hb]
      rw [e45, decide_eq_true hb] at k45
      generalize hv2 : f k = v at *
      simp only [wd_P] at k45
      by_cases hz0 : v = 0
      · have fs2 : outL f (ks.take (i + 1)) = outL f (ks.take i) := by rw [fs]; unfold put; rw [if_pos hz0, List.append_nil]
        subst hz0
        repeat' (first | refine w_seq ?_ | refine w_seqN ?_ | refine w_seqX ?_ | refine w_seqR ?_ | refine w_blk ?_ | refine w_blkN ?_ | refine w_blkX ?_ | refine w_blkR ?_ | refine w_skip ?_ | refine w_ret ?_ | refine w_exit ?_ | refine w_ops ?_ | refine w_opsD ?_ | refine d_one ?_ | refine d_nil ?_ | (refine w_blkY ?_ ?_; rfl) | ((refine i_cond ?_); first | refine w_condT rfl ?_ | refine w_condF rfl ?_) | ((refine i_nil ?_); first | refine d_same ?_ | refine d_ord ?_ | refine d_ext ⟨_, rfl⟩ ?_ | refine d_ext (extA _ _ _) ?_ | refine d_ext (by assumption) ?_ | refine w_end0 ?_ | refine w_end1 rfl ?_ | refine w_end2 rfl rfl ?_ | refine w_end3 rfl rfl rfl ?_ | refine w_end4 rfl rfl rfl rfl ?_ | refine w_end5 rfl rfl rfl rfl rfl ?_ | refine w_end6 rfl rfl rfl rfl rfl rfl ?_ | refine w_end7 rfl rfl rfl rfl rfl rfl rfl ?_ | refine w_end8 rfl rfl rfl rfl rfl rfl rfl rfl ?_ | refine w_end9 rfl rfl rfl rfl rfl rfl rfl rfl rfl ?_ | refine w_end10 rfl rfl rfl rfl rfl rfl rfl rfl rfl rfl ?_ | refine w_end11 rfl rfl rfl rfl rfl rfl rfl rfl rfl rfl rfl ?_ | refine w_end12 rfl rfl rfl rfl rfl rfl rfl rfl rfl rfl rfl rfl ?_ | refine w_end13 rfl rfl rfl rfl rfl rfl rfl rfl rfl rfl rfl rfl rfl ?_ | refine w_end14 rfl rfl rfl rfl rfl rfl rfl rfl rfl rfl rfl rfl rfl rfl ?_ | refine w_end15 rfl rfl rfl rfl rfl rfl rfl rfl rfl rfl rfl rfl rfl rfl rfl ?_ | refine w_end16 rfl rfl rfl rfl rfl rfl rfl rfl rfl rfl rfl rfl rfl rfl rfl rfl ?_) | ((refine i_cons ?_); first | refine k_idxA (esz := 1) rfl rfl (by omega) ?_ | refine k_ld rfl r0 ?_ | refine k_ldb rfl st.b5.at rfl ?_ | refine k_mpLW rfl st.mp rfl hg ?_ | (refine k_call rfl (k45 _) ?_; rintro r h4 ⟨e4, rfl⟩; have s4 := st.ext e4) | refine k_skip rfl ?_ | refine k_skipU rfl ?_ | refine k_want rfl ?_ | refine k_mv rfl ?_ | refine k_pickT rfl rfl ?_ | refine k_pickF rfl rfl ?_ | refine k_notT rfl ?_ | refine k_notF rfl ?_ | refine k_add rfl rfl (by omega) ?_ | refine k_sub rfl rfl (by omega) ?_ | refine k_mul rfl rfl (by omega) ?_ | refine k_neg rfl (by omega) ?_ | refine k_quo rfl rfl (by omega) ?_ | refine k_rem rfl rfl (by omega) ?_ | refine k_conv rfl (by omega) ?_ | refine k_max rfl rfl ?_ | refine k_min rfl rfl ?_ | refine k_lssT rfl rfl (by omega) ?_ | refine k_lssF rfl rfl (by omega) ?_ | refine k_lss rfl rfl (fun hc => ?_) (fun hc => ?_) | refine k_leqT rfl rfl (by omega) ?_ | refine k_leqF rfl rfl (by omega) ?_ | refine k_leq rfl rfl (fun hc => ?_) (fun hc => ?_) | refine k_gtrT rfl rfl (by omega) ?_ | refine k_gtrF rfl rfl (by omega) ?_ | refine k_gtr rfl rfl (fun hc => ?_) (fun hc => ?_) | refine k_geqT rfl rfl (by omega) ?_ | refine k_geqF rfl rfl (by omega) ?_ | refine k_geq rfl rfl (fun hc => ?_) (fun hc => ?_) | refine k_eqlT rfl rfl (by omega) ?_ | refine k_eqlF rfl rfl (by omega) ?_ | refine k_eql rfl rfl (fun hc => ?_) (fun hc => ?_) | refine k_neqT rfl rfl (by omega) ?_ | refine k_neqF rfl rfl (by omega) ?_ | refine k_neq rfl rfl (fun hc => ?_) (fun hc => ?_) | refine k_len rfl rfl ?_ | refine k_ok rfl rfl ?_))
        exact w_roundN ⟨i + 1, s, by omega, hsm2, by rw [fs2]; exact s4, rfl⟩ (by simp [cK, Env.keep, Env.get]; omega)
      · have fs2 : outL f (ks.take (i + 1)) = outL f (ks.take i) ++ [(k, v)] := by rw [fs]; unfold put; rw [if_neg hz0]
        repeat' (first | refine w_seq ?_ | refine w_seqN ?_ | refine w_seqX ?_ | refine w_seqR ?_ | refine w_blk ?_ | refine w_blkN ?_ | refine w_blkX ?_ | refine w_blkR ?_ | refine w_skip ?_ | refine w_ret ?_ | refine w_exit ?_ | refine w_ops ?_ | refine w_opsD ?_ | refine d_one ?_ | refine d_nil ?_ | (refine w_blkY ?_ ?_; rfl) | ((refine i_cond ?_); first | refine w_condT rfl ?_ | refine w_condF rfl ?_) | ((refine i_nil ?_); first | refine d_same ?_ | refine d_ord ?_ | refine d_ext ⟨_, rfl⟩ ?_ | refine d_ext (extA _ _ _) ?_ | refine d_ext (by assumption) ?_ | refine w_end0 ?_ | refine w_end1 rfl ?_ | refine w_end2 rfl rfl ?_ | refine w_end3 rfl rfl rfl ?_ | refine w_end4 rfl rfl rfl rfl ?_ | refine w_end5 rfl rfl rfl rfl rfl ?_ | refine w_end6 rfl rfl rfl rfl rfl rfl ?_ | refine w_end7 rfl rfl rfl rfl rfl rfl rfl ?_ | refine w_end8 rfl rfl rfl rfl rfl rfl rfl rfl ?_ | refine w_end9 rfl rfl rfl rfl rfl rfl rfl rfl rfl ?_ | refine w_end10 rfl rfl rfl rfl rfl rfl rfl rfl rfl rfl ?_ | refine w_end11 rfl rfl rfl rfl rfl rfl rfl rfl rfl rfl rfl ?_ | refine w_end12 rfl rfl rfl rfl rfl rfl rfl rfl rfl rfl rfl rfl ?_ | refine w_end13 rfl rfl rfl rfl rfl rfl rfl rfl rfl rfl rfl rfl rfl ?_ | refine w_end14 rfl rfl rfl rfl rfl rfl rfl rfl rfl rfl rfl rfl rfl rfl ?_ | refine w_end15 rfl rfl rfl rfl rfl rfl rfl rfl rfl rfl rfl rfl rfl rfl rfl ?_ | refine w_end16 rfl rfl rfl rfl rfl rfl rfl rfl rfl rfl rfl rfl rfl rfl rfl rfl ?_) | ((refine i_cons ?_); first | refine k_idxA (esz := 1) rfl rfl (by omega) ?_ | refine k_ld rfl r0 ?_ | refine k_ldb rfl st.b5.at rfl ?_ | refine k_mpLW rfl st.mp rfl hg ?_ | (refine k_call rfl (k45 _) ?_; rintro r h4 ⟨e4, rfl⟩; have s4 := st.ext e4) | refine k_fldA rfl ?_ | refine k_ldC1 rfl s4.c6 ?_ | (refine k_bld rfl rfl ?_) | (refine k_pushD s4.e s4.o rfl rfl (by rw [tms_len]; simp only [bigN]; omega) ?_; intro s' h5 o5 e5 f5 l5; have d6 := s4.c6.fram f5 (s4.o.cel s4.c6)) | (refine k_stC1 rfl rfl d6 ?_; intro h6 w6) | refine k_skip rfl ?_ | refine k_skipU rfl ?_ | refine k_want rfl ?_ | refine k_mv rfl ?_ | refine k_pickT rfl rfl ?_ | refine k_pickF rfl rfl ?_ | refine k_notT rfl ?_ | refine k_notF rfl ?_ | refine k_add rfl rfl (by omega) ?_ | refine k_sub rfl rfl (by omega) ?_ | refine k_mul rfl rfl (by omega) ?_ | refine k_neg rfl (by omega) ?_ | refine k_quo rfl rfl (by omega) ?_ | refine k_rem rfl rfl (by omega) ?_ | refine k_conv rfl (by omega) ?_ | refine k_max rfl rfl ?_ | refine k_min rfl rfl ?_ | refine k_lssT rfl rfl (by omega) ?_ | refine k_lssF rfl rfl (by omega) ?_ | refine k_lss rfl rfl (fun hc => ?_) (fun hc => ?_) | refine k_leqT rfl rfl (by omega) ?_ | refine k_leqF rfl rfl (by omega) ?_ | refine k_leq rfl rfl (fun hc => ?_) (fun hc => ?_) | refine k_gtrT rfl rfl (by omega) ?_ | refine k_gtrF rfl rfl (by omega) ?_ | refine k_gtr rfl rfl (fun hc => ?_) (fun hc => ?_) | refine k_geqT rfl rfl (by omega) ?_ | refine k_geqF rfl rfl (by omega) ?_ | refine k_geq rfl rfl (fun hc => ?_) (fun hc => ?_) | refine k_eqlT rfl rfl (by omega) ?_ | refine k_eqlF rfl rfl (by omega) ?_ | refine k_eql rfl rfl (fun hc => ?_) (fun hc => ?_) | refine k_neqT rfl rfl (by omega) ?_ | refine k_neqF rfl rfl (by omega) ?_ | refine k_neq rfl rfl (fun hc => ?_) (fun hc => ?_) | refine k_len rfl rfl ?_ | refine k_ok rfl rfl ?_))
        have d4 := s4.c4.fram f5 (s4.o.cel s4.c4)
        have d5 := s4.b5.fram f5 (s4.o.cel s4.b5)
        have dm := (f5 _ _ s4.mp (ownD_not s4.o (by decide) s4.mp)).1
        have ds := (f5 _ _ s4.sb (ownD_not s4.o (by decide) s4.sb)).1
        have ne : ∀ {j : Nat} {b : Blk}, h5[j]? = some b → b ≠ .cells [.bool false, s] true 0 → j ≠ q6 := fun {j b} hj hb e => by
          subst e
          unfold Cel at d6
          rw [d6] at hj
          exact hb (Option.some.inj hj).symm
        have n5 : q5 ≠ q6 := ne d5 (by simp)
        have nm : m ≠ q6 := ne dm (by intro e; injection e with e1 e2 e3; exact absurd e3 (by decide))
        have ns : sid ≠ q6 := ne ds (by intro e; injection e with e1 e2 e3; exact absurd e2 (by decide))
        refine w_roundN ⟨i + 1, s', by omega, hsm2, ⟨w6.ext e5 l6, w6.keep d4 n46, ?_, ?_, w6.cel, ?_, ?_⟩, rfl⟩ (by simp [cK, Env.keep, Env.get]; omega)
        · unfold Cel1 at d5 ⊢
          rw [w6.eq, List.getElem?_set_ne (Ne.symm n5)]; exact d5
        · rw [w6.eq, List.getElem?_set_ne (Ne.symm nm)]; exact dm
        · rw [fs2]
          have := o5.wrC w6
          simpa [tms, tmP] using this
        · rw [w6.eq, List.getElem?_set_ne (Ne.symm ns)]; exact ds
    · have e45 : smV (f k) = 0 := by unfold smV; rw [if_neg hb]
      rw [e45, decide_eq_false hb] at k45
      generalize hv2 : f k = v at *
      simp only [wd_P] at k45
      repeat' (first | refine w_seq ?_ | refine w_seqN ?_ | refine w_seqX ?_ | refine w_seqR ?_ | refine w_blk ?_ | refine w_blkN ?_ | refine w_blkX ?_ | refine w_blkR ?_ | refine w_skip ?_ | refine w_ret ?_ | refine w_exit ?_ | refine w_ops ?_ | refine w_opsD ?_ | refine d_one ?_ | refine d_nil ?_ | (refine w_blkY ?_ ?_; rfl) | ((refine i_cond ?_); first | refine w_condT rfl ?_ | refine w_condF rfl ?_) | ((refine i_nil ?_); first | refine d_same ?_ | refine d_ord ?_ | refine d_ext ⟨_, rfl⟩ ?_ | refine d_ext (extA _ _ _) ?_ | refine d_ext (by assumption) ?_ | refine w_end0 ?_ | refine w_end1 rfl ?_ | refine w_end2 rfl rfl ?_ | refine w_end3 rfl rfl rfl ?_ | refine w_end4 rfl rfl rfl rfl ?_ | refine w_end5 rfl rfl rfl rfl rfl ?_ | refine w_end6 rfl rfl rfl rfl rfl rfl ?_ | refine w_end7 rfl rfl rfl rfl rfl rfl rfl ?_ | refine w_end8 rfl rfl rfl rfl rfl rfl rfl rfl ?_ | refine w_end9 rfl rfl rfl rfl rfl rfl rfl rfl rfl ?_ | refine w_end10 rfl rfl rfl rfl rfl rfl rfl rfl rfl rfl ?_ | refine w_end11 rfl rfl rfl rfl rfl rfl rfl rfl rfl rfl rfl ?_ | refine w_end12 rfl rfl rfl rfl rfl rfl rfl rfl rfl rfl rfl rfl ?_ | refine w_end13 rfl rfl rfl rfl rfl rfl rfl rfl rfl rfl rfl rfl rfl ?_ | refine w_end14 rfl rfl rfl rfl rfl rfl rfl rfl rfl rfl rfl rfl rfl rfl ?_ | refine w_end15 rfl rfl rfl rfl rfl rfl rfl rfl rfl rfl rfl rfl rfl rfl rfl ?_ | refine w_end16 rfl rfl rfl rfl rfl rfl rfl rfl rfl rfl rfl rfl rfl rfl rfl rfl ?_) | ((refine i_cons ?_); first | refine k_idxA (esz := 1) rfl rfl (by omega) ?_ | refine k_ld rfl r0 ?_ | refine k_ldb rfl st.b5.at rfl ?_ | refine k_mpLW rfl st.mp rfl hg ?_ | (refine k_call rfl (k45 _) ?_; rintro r h4 ⟨e4, rfl⟩; have s4 := st.ext e4) | (refine k_bld rfl rfl ?_) | (have c4 := s4.c4; refine k_stC rfl rfl c4 ?_; intro h6 w6) | refine k_skip rfl ?_ | refine k_skipU rfl ?_ | refine k_want rfl ?_ | refine k_mv rfl ?_ | refine k_pickT rfl rfl ?_ | refine k_pickF rfl rfl ?_ | refine k_notT rfl ?_ | refine k_notF rfl ?_ | refine k_add rfl rfl (by omega) ?_ | refine k_sub rfl rfl (by omega) ?_ | refine k_mul rfl rfl (by omega) ?_ | refine k_neg rfl (by omega) ?_ | refine k_quo rfl rfl (by omega) ?_ | refine k_rem rfl rfl (by omega) ?_ | refine k_conv rfl (by omega) ?_ | refine k_max rfl rfl ?_ | refine k_min rfl rfl ?_ | refine k_lssT rfl rfl (by omega) ?_ | refine k_lssF rfl rfl (by omega) ?_ | refine k_lss rfl rfl (fun hc => ?_) (fun hc => ?_) | refine k_leqT rfl rfl (by omega) ?_ | refine k_leqF rfl rfl (by omega) ?_ | refine k_leq rfl rfl (fun hc => ?_) (fun hc => ?_) | refine k_gtrT rfl rfl (by omega) ?_ | refine k_gtrF rfl rfl (by omega) ?_ | refine k_gtr rfl rfl (fun hc => ?_) (fun hc => ?_) | refine k_geqT rfl rfl (by omega) ?_ | refine k_geqF rfl rfl (by omega) ?_ | refine k_geq rfl rfl (fun hc => ?_) (fun hc => ?_) | refine k_eqlT rfl rfl (by omega) ?_ | refine k_eqlF rfl rfl (by omega) ?_ | refine k_eql rfl rfl (fun hc => ?_) (fun hc => ?_) | refine k_neqT rfl rfl (by omega) ?_ | refine k_neqF rfl rfl (by omega) ?_ | refine k_neq rfl rfl (fun hc => ?_) (fun hc => ?_) | refine k_len rfl rfl ?_ | refine k_ok rfl rfl ?_))
      exact w_roundR (.inr ⟨rfl, fun h => hb (by have := h k (List.mem_of_getElem? hk); rwa [hv2] at this), w6.ext s4.e l4, w6.cel, rfl⟩)
  · have : i = ks.length := by omega
    subst this
    rw [List.take_length] at hsm st
    repeat' (first | refine w_seq ?_ | refine w_seqN ?_ | refine w_seqX ?_ | refine w_seqR ?_ | refine w_blk ?_ | refine w_blkN ?_ | refine w_blkX ?_ | refine w_blkR ?_ | refine w_skip ?_ | refine w_ret ?_ | refine w_exit ?_ | refine w_ops ?_ | refine w_opsD ?_ | refine d_one ?_ | refine d_nil ?_ | (refine w_blkY ?_ ?_; rfl) | ((refine i_cond ?_); first | refine w_condT rfl ?_ | refine w_condF rfl ?_) | ((refine i_nil ?_); first | refine d_same ?_ | refine d_ord ?_ | refine d_ext ⟨_, rfl⟩ ?_ | refine d_ext (extA _ _ _) ?_ | refine d_ext (by assumption) ?_ | refine w_end0 ?_ | refine w_end1 rfl ?_ | refine w_end2 rfl rfl ?_ | refine w_end3 rfl rfl rfl ?_ | refine w_end4 rfl rfl rfl rfl ?_ | refine w_end5 rfl rfl rfl rfl rfl ?_ | refine w_end6 rfl rfl rfl rfl rfl rfl ?_ | refine w_end7 rfl rfl rfl rfl rfl rfl rfl ?_ | refine w_end8 rfl rfl rfl rfl rfl rfl rfl rfl ?_ | refine w_end9 rfl rfl rfl rfl rfl rfl rfl rfl rfl ?_ | refine w_end10 rfl rfl rfl rfl rfl rfl rfl rfl rfl rfl ?_ | refine w_end11 rfl rfl rfl rfl rfl rfl rfl rfl rfl rfl rfl ?_ | refine w_end12 rfl rfl rfl rfl rfl rfl rfl rfl rfl rfl rfl rfl ?_ | refine w_end13 rfl rfl rfl rfl rfl rfl rfl rfl rfl rfl rfl rfl rfl ?_ | refine w_end14 rfl rfl rfl rfl rfl rfl rfl rfl rfl rfl rfl rfl rfl rfl ?_ | refine w_end15 rfl rfl rfl rfl rfl rfl rfl rfl rfl rfl rfl rfl rfl rfl rfl ?_ | refine w_end16 rfl rfl rfl rfl rfl rfl rfl rfl rfl rfl rfl rfl rfl rfl rfl rfl ?_) | ((refine i_cons ?_); first | refine k_skip rfl ?_ | refine k_skipU rfl ?_ | refine k_want rfl ?_ | refine k_mv rfl ?_ | refine k_pickT rfl rfl ?_ | refine k_pickF rfl rfl ?_ | refine k_notT rfl ?_ | refine k_notF rfl ?_ | refine k_add rfl rfl (by omega) ?_ | refine k_sub rfl rfl (by omega) ?_ | refine k_mul rfl rfl (by omega) ?_ | refine k_neg rfl (by omega) ?_ | refine k_quo rfl rfl (by omega) ?_ | refine k_rem rfl rfl (by omega) ?_ | refine k_conv rfl (by omega) ?_ | refine k_max rfl rfl ?_ | refine k_min rfl rfl ?_ | refine k_lssT rfl rfl (by omega) ?_ | refine k_lssF rfl rfl (by omega) ?_ | refine k_lss rfl rfl (fun hc => ?_) (fun hc => ?_) | refine k_leqT rfl rfl (by omega) ?_ | refine k_leqF rfl rfl (by omega) ?_ | refine k_leq rfl rfl (fun hc => ?_) (fun hc => ?_) | refine k_gtrT rfl rfl (by omega) ?_ | refine k_gtrF rfl rfl (by omega) ?_ | refine k_gtr rfl rfl (fun hc => ?_) (fun hc => ?_) | refine k_geqT rfl rfl (by omega) ?_ | refine k_geqF rfl rfl (by omega) ?_ | refine k_geq rfl rfl (fun hc => ?_) (fun hc => ?_) | refine k_eqlT rfl rfl (by omega) ?_ | refine k_eqlF rfl rfl (by omega) ?_ | refine k_eql rfl rfl (fun hc => ?_) (fun hc => ?_) | refine k_neqT rfl rfl (by omega) ?_ | refine k_neqF rfl rfl (by omega) ?_ | refine k_neq rfl rfl (fun hc => ?_) (fun hc => ?_) | refine k_len rfl rfl ?_ | refine k_ok rfl rfl ?_))
    exact w_roundX (.inl ⟨rfl, s, hsm, st, _, _, _, _, _, rfl⟩)
/-- The product that is gathered. -/
def gatP (L : List Tm) : Pol := open Classical in if ∀ t ∈ L, t.2.natAbs ≤ cM then ⟨false, L⟩ else bigP
theorem call42 (h0 : Heap) (sp sq : SV) (ba bb : Bool) (p q : Pol) (hp : IsD h0 sp (tms p.ts)) (hq : IsD h0 sq (tms q.ts)) (kp : Pok p) (kq : Pok q) (hpe : p.ts ≠ []) (hqe : q.ts ≠ []) (lo : Int) (n : Nat) (hrng : ∀ t ∈ p.ts, ∀ u ∈ q.ts, lo ≤ t.1 + u.1 ∧ t.1 + u.1 < lo + n) (hlo : -100000000 ≤ lo ∧ lo ≤ 100000000) (hn : n ≤ 100000000) (hpq : p.ts.length * q.ts.length ≤ 1000000) :
    ∃ r h', Cal FT HKt 42 [.agg [.bool ba, sp], .agg [.bool bb, sq]] h0 r h' ∧ Ext h0 h' ∧ IsPol h' r (gatP (mulL p.ts q.ts lo n)) := by
  refine Cal.of (F := a42) rfl rfl rfl ?_
  have hpos : 0 < p.ts.length * q.ts.length := Nat.mul_pos (List.length_pos_iff.2 hpe) (List.length_pos_iff.2 hqe)
  repeat' (first | refine w_seq ?_ | refine w_seqN ?_ | refine w_seqX ?_ | refine w_seqR ?_ | refine w_blk ?_ | refine w_blkN ?_ | refine w_blkX ?_ | refine w_blkR ?_ | refine w_skip ?_ | refine w_ret ?_ | refine w_exit ?_ | refine w_ops ?_ | refine w_opsD ?_ | refine d_one ?_ | refine d_nil ?_ | (refine w_blkY ?_ ?_; rfl) | ((refine i_cond ?_); first | refine w_condT rfl ?_ | refine w_condF rfl ?_) | ((refine i_nil ?_); first | refine d_same ?_ | refine d_ord ?_ | refine d_ext ⟨_, rfl⟩ ?_ | refine d_ext (extA _ _ _) ?_ | refine d_ext (by assumption) ?_ | refine w_end0 ?_ | refine w_end1 rfl ?_ | refine w_end2 rfl rfl ?_ | refine w_end3 rfl rfl rfl ?_ | refine w_end4 rfl rfl rfl rfl ?_ | refine w_end5 rfl rfl rfl rfl rfl ?_ | refine w_end6 rfl rfl rfl rfl rfl rfl ?_ | refine w_end7 rfl rfl rfl rfl rfl rfl rfl ?_ | refine w_end8 rfl rfl rfl rfl rfl rfl rfl rfl ?_ | refine w_end9 rfl rfl rfl rfl rfl rfl rfl rfl rfl ?_ | refine w_end10 rfl rfl rfl rfl rfl rfl rfl rfl rfl rfl ?_ | refine w_end11 rfl rfl rfl rfl rfl rfl rfl rfl rfl rfl rfl ?_ | refine w_end12 rfl rfl rfl rfl rfl rfl rfl rfl rfl rfl rfl rfl ?_ | refine w_end13 rfl rfl rfl rfl rfl rfl rfl rfl rfl rfl rfl rfl rfl ?_ | refine w_end14 rfl rfl rfl rfl rfl rfl rfl rfl rfl rfl rfl rfl rfl rfl ?_ | refine w_end15 rfl rfl rfl rfl rfl rfl rfl rfl rfl rfl rfl rfl rfl rfl rfl ?_ | refine w_end16 rfl rfl rfl rfl rfl rfl rfl rfl rfl rfl rfl rfl rfl rfl rfl rfl ?_) | ((refine i_cons ?_); first | (have z := e2; refine k_newC ?_; intro h3 e3 c3; have d1 := (c1.ext e2).ext e3; have d2 := c2.ext e3; have x3 := e1.trans (e2.trans e3); have l3 := e1.len; have l3b := e2.len; have l3c := e3.len) | (have z := e1; refine k_boxC rfl ?_; intro h2 e2 c2) | (refine k_boxC rfl ?_; intro h1 e1 c1) | (have z := e3; refine k_mpMW ?_) | refine k_skip rfl ?_ | refine k_skipU rfl ?_ | refine k_want rfl ?_ | refine k_mv rfl ?_ | refine k_pickT rfl rfl ?_ | refine k_pickF rfl rfl ?_ | refine k_notT rfl ?_ | refine k_notF rfl ?_ | refine k_add rfl rfl (by omega) ?_ | refine k_sub rfl rfl (by omega) ?_ | refine k_mul rfl rfl (by omega) ?_ | refine k_neg rfl (by omega) ?_ | refine k_quo rfl rfl (by omega) ?_ | refine k_rem rfl rfl (by omega) ?_ | refine k_conv rfl (by omega) ?_ | refine k_max rfl rfl ?_ | refine k_min rfl rfl ?_ | refine k_lssT rfl rfl (by omega) ?_ | refine k_lssF rfl rfl (by omega) ?_ | refine k_lss rfl rfl (fun hc => ?_) (fun hc => ?_) | refine k_leqT rfl rfl (by omega) ?_ | refine k_leqF rfl rfl (by omega) ?_ | refine k_leq rfl rfl (fun hc => ?_) (fun hc => ?_) | refine k_gtrT rfl rfl (by omega) ?_ | refine k_gtrF rfl rfl (by omega) ?_ | refine k_gtr rfl rfl (fun hc => ?_) (fun hc => ?_) | refine k_geqT rfl rfl (by omega) ?_ | refine k_geqF rfl rfl (by omega) ?_ | refine k_geq rfl rfl (fun hc => ?_) (fun hc => ?_) | refine k_eqlT rfl rfl (by omega) ?_ | refine k_eqlF rfl rfl (by omega) ?_ | refine k_eql rfl rfl (fun hc => ?_) (fun hc => ?_) | refine k_neqT rfl rfl (by omega) ?_ | refine k_neqF rfl rfl (by omega) ?_ | refine k_neq rfl rfl (fun hc => ?_) (fun hc => ?_) | refine k_len rfl rfl ?_ | refine k_ok rfl rfl ?_))
  have l30 : h0.length ≤ h3.length := x3.len
  have m1 := c1.lt
  have m2 := c2.lt
  have m3 := c3.lt
  have eB : (h3 ++ [MBW []] ++ [Blk.cells [.nilM] true 0]).set (h3 ++ [MBW []]).length (.cells [.mapv h3.length] true 0) = h3 ++ [MBW [], .cells [.mapv h3.length] true 0] := by
    rw [List.set_append_right _ _ (Nat.le_refl _)]; simp
  refine k_st1 (a := .nilM) rfl rfl (by simp) ?_
  intro hB wB cB
  rw [eB] at wB
  have e3B : Ext h3 hB := ⟨_, wB⟩
  have d1_B := d1.ext e3B
  have d2_B := d2.ext e3B
  have c3_B := c3.ext e3B
  have hmB : hB[h3.length]? = some (MBW (esW (fun _ => 0) [])) := by rw [wB]; simp [esF]
  have xM : Mx h0 hB hB (h3 ++ [MBW []]).length h3.length (fun _ => 0) [] := ⟨x3.trans e3B, cB, hmB, List.nodup_nil, fun _ _ => rfl, l30, fun _ _ h _ => h⟩
  have k43 := scall43 h0 hB (h3 ++ [MBW []]).length h3.length lo n ba bb sp sq p.ts q.ts hp hq kp.fit kq.fit hrng xM
  have ne3 : h2.length ≠ h3.length := xM.ne c3_B
  generalize hq5 : (h3 ++ [MBW []]).length = q5 at *
  refine w_nilK ?_
  repeat' (first | refine w_seq ?_ | refine w_seqN ?_ | refine w_seqX ?_ | refine w_seqR ?_ | refine w_blk ?_ | refine w_blkN ?_ | refine w_blkX ?_ | refine w_blkR ?_ | refine w_skip ?_ | refine w_ret ?_ | refine w_exit ?_ | refine w_ops ?_ | refine w_opsD ?_ | refine d_one ?_ | refine d_nil ?_ | (refine w_blkY ?_ ?_; rfl) | ((refine i_cond ?_); first | refine w_condT rfl ?_ | refine w_condF rfl ?_) | ((refine i_nil ?_); first | refine d_same ?_ | refine d_ord ?_ | refine d_ext ⟨_, rfl⟩ ?_ | refine d_ext (extA _ _ _) ?_ | refine d_ext (by assumption) ?_ | refine w_end0 ?_ | refine w_end1 rfl ?_ | refine w_end2 rfl rfl ?_ | refine w_end3 rfl rfl rfl ?_ | refine w_end4 rfl rfl rfl rfl ?_ | refine w_end5 rfl rfl rfl rfl rfl ?_ | refine w_end6 rfl rfl rfl rfl rfl rfl ?_ | refine w_end7 rfl rfl rfl rfl rfl rfl rfl ?_ | refine w_end8 rfl rfl rfl rfl rfl rfl rfl rfl ?_ | refine w_end9 rfl rfl rfl rfl rfl rfl rfl rfl rfl ?_ | refine w_end10 rfl rfl rfl rfl rfl rfl rfl rfl rfl rfl ?_ | refine w_end11 rfl rfl rfl rfl rfl rfl rfl rfl rfl rfl rfl ?_ | refine w_end12 rfl rfl rfl rfl rfl rfl rfl rfl rfl rfl rfl rfl ?_ | refine w_end13 rfl rfl rfl rfl rfl rfl rfl rfl rfl rfl rfl rfl rfl ?_ | refine w_end14 rfl rfl rfl rfl rfl rfl rfl rfl rfl rfl rfl rfl rfl rfl ?_ | refine w_end15 rfl rfl rfl rfl rfl rfl rfl rfl rfl rfl rfl rfl rfl rfl rfl ?_ | refine w_end16 rfl rfl rfl rfl rfl rfl rfl rfl rfl rfl rfl rfl rfl rfl rfl rfl ?_) | ((refine i_cons ?_); first | refine k_ldC rfl d1_B ?_ | refine k_ldC rfl d2_B ?_ | (refine k_call rfl k43 ?_; rintro r hC ⟨K, xC, kx⟩; have c3_C := xC.k _ _ c3_B ne3) | (have z := xC; refine k_newC ?_; intro hD eD c6; have xD := xC.ext eD; have c3_D := Cel.ext c3_C eD) | refine k_skip rfl ?_ | refine k_skipU rfl ?_ | refine k_want rfl ?_ | refine k_mv rfl ?_ | refine k_pickT rfl rfl ?_ | refine k_pickF rfl rfl ?_ | refine k_notT rfl ?_ | refine k_notF rfl ?_ | refine k_add rfl rfl (by omega) ?_ | refine k_sub rfl rfl (by omega) ?_ | refine k_mul rfl rfl (by omega) ?_ | refine k_neg rfl (by omega) ?_ | refine k_quo rfl rfl (by omega) ?_ | refine k_rem rfl rfl (by omega) ?_ | refine k_conv rfl (by omega) ?_ | refine k_max rfl rfl ?_ | refine k_min rfl rfl ?_ | refine k_lssT rfl rfl (by omega) ?_ | refine k_lssF rfl rfl (by omega) ?_ | refine k_lss rfl rfl (fun hc => ?_) (fun hc => ?_) | refine k_leqT rfl rfl (by omega) ?_ | refine k_leqF rfl rfl (by omega) ?_ | refine k_leq rfl rfl (fun hc => ?_) (fun hc => ?_) | refine k_gtrT rfl rfl (by omega) ?_ | refine k_gtrF rfl rfl (by omega) ?_ | refine k_gtr rfl rfl (fun hc => ?_) (fun hc => ?_) | refine k_geqT rfl rfl (by omega) ?_ | refine k_geqF rfl rfl (by omega) ?_ | refine k_geq rfl rfl (fun hc => ?_) (fun hc => ?_) | refine k_eqlT rfl rfl (by omega) ?_ | refine k_eqlF rfl rfl (by omega) ?_ | refine k_eql rfl rfl (fun hc => ?_) (fun hc => ?_) | refine k_neqT rfl rfl (by omega) ?_ | refine k_neqF rfl rfl (by omega) ?_ | refine k_neq rfl rfl (fun hc => ?_) (fun hc => ?_) | refine k_len rfl rfl ?_ | refine k_ok rfl rfl ?_))
  have hKr : ∀ k ∈ K, -9223372036854775808 ≤ k ∧ k ≤ 9223372036854775807 := fun k hk => by have := kx.rg k hk; omega
  have hKl : K.length ≤ 1000000 := Nat.le_trans kx.len hpq
  have hkl : K.length = (srt K).length := (srt_perm K).length_eq.symm
  have e1 : Ext hD (hD ++ [Blk.cells [.mapv h3.length] true ⟨0, some 106⟩]) := ⟨_, rfl⟩
  have k76 := sorted_c (h := hD ++ [Blk.cells [.mapv h3.length] true ⟨0, some 106⟩]) (p := hD.length) (m := h3.length) (by simp) (e1.get _ _ xD.mp) xD.nd hKr hKl (kx.ne hpos)
  rw [hkl] at k76
  repeat' (first | refine w_seq ?_ | refine w_seqN ?_ | refine w_seqX ?_ | refine w_seqR ?_ | refine w_blk ?_ | refine w_blkN ?_ | refine w_blkX ?_ | refine w_blkR ?_ | refine w_skip ?_ | refine w_ret ?_ | refine w_exit ?_ | refine w_ops ?_ | refine w_opsD ?_ | refine d_one ?_ | refine d_nil ?_ | (refine w_blkY ?_ ?_; rfl) | ((refine i_cond ?_); first | refine w_condT rfl ?_ | refine w_condF rfl ?_) | ((refine i_nil ?_); first | refine d_same ?_ | refine d_ord ?_ | refine d_ext ⟨_, rfl⟩ ?_ | refine d_ext (extA _ _ _) ?_ | refine d_ext (by assumption) ?_ | refine w_end0 ?_ | refine w_end1 rfl ?_ | refine w_end2 rfl rfl ?_ | refine w_end3 rfl rfl rfl ?_ | refine w_end4 rfl rfl rfl rfl ?_ | refine w_end5 rfl rfl rfl rfl rfl ?_ | refine w_end6 rfl rfl rfl rfl rfl rfl ?_ | refine w_end7 rfl rfl rfl rfl rfl rfl rfl ?_ | refine w_end8 rfl rfl rfl rfl rfl rfl rfl rfl ?_ | refine w_end9 rfl rfl rfl rfl rfl rfl rfl rfl rfl ?_ | refine w_end10 rfl rfl rfl rfl rfl rfl rfl rfl rfl rfl ?_ | refine w_end11 rfl rfl rfl rfl rfl rfl rfl rfl rfl rfl rfl ?_ | refine w_end12 rfl rfl rfl rfl rfl rfl rfl rfl rfl rfl rfl rfl ?_ | refine w_end13 rfl rfl rfl rfl rfl rfl rfl rfl rfl rfl rfl rfl rfl ?_ | refine w_end14 rfl rfl rfl rfl rfl rfl rfl rfl rfl rfl rfl rfl rfl rfl ?_ | refine w_end15 rfl rfl rfl rfl rfl rfl rfl rfl rfl rfl rfl rfl rfl rfl rfl ?_ | refine w_end16 rfl rfl rfl rfl rfl rfl rfl rfl rfl rfl rfl rfl rfl rfl rfl rfl ?_) | ((refine i_cons ?_); first | refine k_ldb rfl xD.b5.at rfl ?_ | (refine k_call rfl (keys_c hD h3.length) ?_; rintro r hE ⟨rfl, rfl⟩) | (refine k_call rfl k76 ?_; rintro r hF ⟨rfl, rfl⟩) | refine k_len (n := ((srt K).length : Int)) rfl rfl ?_ | refine k_skip rfl ?_ | refine k_skipU rfl ?_ | refine k_want rfl ?_ | refine k_mv rfl ?_ | refine k_pickT rfl rfl ?_ | refine k_pickF rfl rfl ?_ | refine k_notT rfl ?_ | refine k_notF rfl ?_ | refine k_add rfl rfl (by omega) ?_ | refine k_sub rfl rfl (by omega) ?_ | refine k_mul rfl rfl (by omega) ?_ | refine k_neg rfl (by omega) ?_ | refine k_quo rfl rfl (by omega) ?_ | refine k_rem rfl rfl (by omega) ?_ | refine k_conv rfl (by omega) ?_ | refine k_max rfl rfl ?_ | refine k_min rfl rfl ?_ | refine k_lssT rfl rfl (by omega) ?_ | refine k_lssF rfl rfl (by omega) ?_ | refine k_lss rfl rfl (fun hc => ?_) (fun hc => ?_) | refine k_leqT rfl rfl (by omega) ?_ | refine k_leqF rfl rfl (by omega) ?_ | refine k_leq rfl rfl (fun hc => ?_) (fun hc => ?_) | refine k_gtrT rfl rfl (by omega) ?_ | refine k_gtrF rfl rfl (by omega) ?_ | refine k_gtr rfl rfl (fun hc => ?_) (fun hc => ?_) | refine k_geqT rfl rfl (by omega) ?_ | refine k_geqF rfl rfl (by omega) ?_ | refine k_geq rfl rfl (fun hc => ?_) (fun hc => ?_) | refine k_eqlT rfl rfl (by omega) ?_ | refine k_eqlF rfl rfl (by omega) ?_ | refine k_eql rfl rfl (fun hc => ?_) (fun hc => ?_) | refine k_neqT rfl rfl (by omega) ?_ | refine k_neqF rfl rfl (by omega) ?_ | refine k_neq rfl rfl (fun hc => ?_) (fun hc => ?_) | refine k_len rfl rfl ?_ | refine k_ok rfl rfl ?_))
  have e2F : Ext hD (hD ++ [Blk.cells [.mapv h3.length] true ⟨0, some 106⟩] ++ [Blk.cells ((srt K).map (.int .i64)) false 1]) := e1.app _
  have xF := xD.ext e2F
  have l02 : h0.length ≤ h2.length := by omega
  have l3C : h3.length < hC.length := (List.getElem?_eq_some_iff.1 xC.mp).1
  have st0 : St42 h0 (hD ++ [Blk.cells [.mapv h3.length] true ⟨0, some 106⟩] ++ [Blk.cells ((srt K).map (.int .i64)) false 1]) h2.length q5 hC.length h3.length (hD ++ [Blk.cells [.mapv h3.length] true ⟨0, some 106⟩]).length .nilS (fun e => mc p.ts q.ts e) K (srt K) (outL (fun e => mc p.ts q.ts e) ((srt K).take 0)) :=
    ⟨xF.e, c3_D.ext e2F, xF.b5, xF.mp, c6.ext e2F, .inl ⟨rfl, rfl⟩, by simp⟩
  have hout := outL_mul (f := fun e => mc p.ts q.ts e) xC.nd kx.rg xC.z
  refine w_loop (I42 h0 h2.length q5 hC.length h3.length (hD ++ [Blk.cells [.mapv h3.length] true ⟨0, some 106⟩]).length (fun e => mc p.ts q.ts e) K (srt K)) (cK [4, 5, 6, 18, 19, 20] (srt K).length 20) (R42 h0 h2.length q5 hC.length h3.length (hD ++ [Blk.cells [.mapv h3.length] true ⟨0, some 106⟩]).length (fun e => mc p.ts q.ts e) K (srt K)) ⟨0, .nilS, Nat.zero_le _, by simp, st0, rfl⟩ (round42 h0 h2.length q5 hC.length h3.length _ (fun e => mc p.ts q.ts e) K (srt K) (by omega) (mc_small kp kq) xC.z (fun k hk => hKr k ((srt_perm K).mem_iff.1 hk)) l02 (by omega) (by omega)) ?_
  rintro ex E' hG (⟨rfl, s, hall, st, a, b, c, d, e, rfl⟩ | ⟨rfl, hns, eG, c4, rfl⟩)
  · have c4 := st.c4
    repeat' (first | refine w_seq ?_ | refine w_seqN ?_ | refine w_seqX ?_ | refine w_seqR ?_ | refine w_blk ?_ | refine w_blkN ?_ | refine w_blkX ?_ | refine w_blkR ?_ | refine w_skip ?_ | refine w_ret ?_ | refine w_exit ?_ | refine w_ops ?_ | refine w_opsD ?_ | refine d_one ?_ | refine d_nil ?_ | (refine w_blkY ?_ ?_; rfl) | ((refine i_cond ?_); first | refine w_condT rfl ?_ | refine w_condF rfl ?_) | ((refine i_nil ?_); first | refine d_same ?_ | refine d_ord ?_ | refine d_ext ⟨_, rfl⟩ ?_ | refine d_ext (extA _ _ _) ?_ | refine d_ext (by assumption) ?_ | refine w_end0 ?_ | refine w_end1 rfl ?_ | refine w_end2 rfl rfl ?_ | refine w_end3 rfl rfl rfl ?_ | refine w_end4 rfl rfl rfl rfl ?_ | refine w_end5 rfl rfl rfl rfl rfl ?_ | refine w_end6 rfl rfl rfl rfl rfl rfl ?_ | refine w_end7 rfl rfl rfl rfl rfl rfl rfl ?_ | refine w_end8 rfl rfl rfl rfl rfl rfl rfl rfl ?_ | refine w_end9 rfl rfl rfl rfl rfl rfl rfl rfl rfl ?_ | refine w_end10 rfl rfl rfl rfl rfl rfl rfl rfl rfl rfl ?_ | refine w_end11 rfl rfl rfl rfl rfl rfl rfl rfl rfl rfl rfl ?_ | refine w_end12 rfl rfl rfl rfl rfl rfl rfl rfl rfl rfl rfl rfl ?_ | refine w_end13 rfl rfl rfl rfl rfl rfl rfl rfl rfl rfl rfl rfl rfl ?_ | refine w_end14 rfl rfl rfl rfl rfl rfl rfl rfl rfl rfl rfl rfl rfl rfl ?_ | refine w_end15 rfl rfl rfl rfl rfl rfl rfl rfl rfl rfl rfl rfl rfl rfl rfl ?_ | refine w_end16 rfl rfl rfl rfl rfl rfl rfl rfl rfl rfl rfl rfl rfl rfl rfl rfl ?_) | ((refine i_cons ?_); first | refine k_ldC rfl st.c6 ?_ | (refine k_stC rfl rfl c4 ?_; intro hH w4) | refine k_skip rfl ?_ | refine k_skipU rfl ?_ | refine k_want rfl ?_ | refine k_mv rfl ?_ | refine k_pickT rfl rfl ?_ | refine k_pickF rfl rfl ?_ | refine k_notT rfl ?_ | refine k_notF rfl ?_ | refine k_add rfl rfl (by omega) ?_ | refine k_sub rfl rfl (by omega) ?_ | refine k_mul rfl rfl (by omega) ?_ | refine k_neg rfl (by omega) ?_ | refine k_quo rfl rfl (by omega) ?_ | refine k_rem rfl rfl (by omega) ?_ | refine k_conv rfl (by omega) ?_ | refine k_max rfl rfl ?_ | refine k_min rfl rfl ?_ | refine k_lssT rfl rfl (by omega) ?_ | refine k_lssF rfl rfl (by omega) ?_ | refine k_lss rfl rfl (fun hc => ?_) (fun hc => ?_) | refine k_leqT rfl rfl (by omega) ?_ | refine k_leqF rfl rfl (by omega) ?_ | refine k_leq rfl rfl (fun hc => ?_) (fun hc => ?_) | refine k_gtrT rfl rfl (by omega) ?_ | refine k_gtrF rfl rfl (by omega) ?_ | refine k_gtr rfl rfl (fun hc => ?_) (fun hc => ?_) | refine k_geqT rfl rfl (by omega) ?_ | refine k_geqF rfl rfl (by omega) ?_ | refine k_geq rfl rfl (fun hc => ?_) (fun hc => ?_) | refine k_eqlT rfl rfl (by omega) ?_ | refine k_eqlF rfl rfl (by omega) ?_ | refine k_eql rfl rfl (fun hc => ?_) (fun hc => ?_) | refine k_neqT rfl rfl (by omega) ?_ | refine k_neqF rfl rfl (by omega) ?_ | refine k_neq rfl rfl (fun hc => ?_) (fun hc => ?_) | refine k_len rfl rfl ?_ | refine k_ok rfl rfl ?_))
    refine ⟨.inr rfl, oK_cell rfl w4.cel.read ⟨w4.ext st.e l02, ?_⟩⟩
    unfold gatP
    rw [if_pos]
    · exact ⟨s, rfl, by rw [show mulL p.ts q.ts lo n = outL (fun e => mc p.ts q.ts e) (srt K) from hout.symm]; exact (st.o.wrC w4).is⟩
    · intro t ht
      obtain ⟨a, b, c, d⟩ := fromC_mem.1 ht
      have hk : t.1 ∈ K := Classical.byContradiction fun hk => d (c.trans (xC.z _ hk))
      have := hall t.1 ((srt_perm K).mem_iff.2 hk)
      rw [c]; exact this
  · repeat' (first | refine w_seq ?_ | refine w_seqN ?_ | refine w_seqX ?_ | refine w_seqR ?_ | refine w_blk ?_ | refine w_blkN ?_ | refine w_blkX ?_ | refine w_blkR ?_ | refine w_skip ?_ | refine w_ret ?_ | refine w_exit ?_ | refine w_ops ?_ | refine w_opsD ?_ | refine d_one ?_ | refine d_nil ?_ | (refine w_blkY ?_ ?_; rfl) | ((refine i_cond ?_); first | refine w_condT rfl ?_ | refine w_condF rfl ?_) | ((refine i_nil ?_); first | refine d_same ?_ | refine d_ord ?_ | refine d_ext ⟨_, rfl⟩ ?_ | refine d_ext (extA _ _ _) ?_ | refine d_ext (by assumption) ?_ | refine w_end0 ?_ | refine w_end1 rfl ?_ | refine w_end2 rfl rfl ?_ | refine w_end3 rfl rfl rfl ?_ | refine w_end4 rfl rfl rfl rfl ?_ | refine w_end5 rfl rfl rfl rfl rfl ?_ | refine w_end6 rfl rfl rfl rfl rfl rfl ?_ | refine w_end7 rfl rfl rfl rfl rfl rfl rfl ?_ | refine w_end8 rfl rfl rfl rfl rfl rfl rfl rfl ?_ | refine w_end9 rfl rfl rfl rfl rfl rfl rfl rfl rfl ?_ | refine w_end10 rfl rfl rfl rfl rfl rfl rfl rfl rfl rfl ?_ | refine w_end11 rfl rfl rfl rfl rfl rfl rfl rfl rfl rfl rfl ?_ | refine w_end12 rfl rfl rfl rfl rfl rfl rfl rfl rfl rfl rfl rfl ?_ | refine w_end13 rfl rfl rfl rfl rfl rfl rfl rfl rfl rfl rfl rfl rfl ?_ | refine w_end14 rfl rfl rfl rfl rfl rfl rfl rfl rfl rfl rfl rfl rfl rfl ?_ | refine w_end15 rfl rfl rfl rfl rfl rfl rfl rfl rfl rfl rfl rfl rfl rfl rfl ?_ | refine w_end16 rfl rfl rfl rfl rfl rfl rfl rfl rfl rfl rfl rfl rfl rfl rfl rfl ?_) | ((refine i_cons ?_); first | refine k_skip rfl ?_ | refine k_skipU rfl ?_ | refine k_want rfl ?_ | refine k_mv rfl ?_ | refine k_pickT rfl rfl ?_ | refine k_pickF rfl rfl ?_ | refine k_notT rfl ?_ | refine k_notF rfl ?_ | refine k_add rfl rfl (by omega) ?_ | refine k_sub rfl rfl (by omega) ?_ | refine k_mul rfl rfl (by omega) ?_ | refine k_neg rfl (by omega) ?_ | refine k_quo rfl rfl (by omega) ?_ | refine k_rem rfl rfl (by omega) ?_ | refine k_conv rfl (by omega) ?_ | refine k_max rfl rfl ?_ | refine k_min rfl rfl ?_ | refine k_lssT rfl rfl (by omega) ?_ | refine k_lssF rfl rfl (by omega) ?_ | refine k_lss rfl rfl (fun hc => ?_) (fun hc => ?_) | refine k_leqT rfl rfl (by omega) ?_ | refine k_leqF rfl rfl (by omega) ?_ | refine k_leq rfl rfl (fun hc => ?_) (fun hc => ?_) | refine k_gtrT rfl rfl (by omega) ?_ | refine k_gtrF rfl rfl (by omega) ?_ | refine k_gtr rfl rfl (fun hc => ?_) (fun hc => ?_) | refine k_geqT rfl rfl (by omega) ?_ | refine k_geqF rfl rfl (by omega) ?_ | refine k_geq rfl rfl (fun hc => ?_) (fun hc => ?_) | refine k_eqlT rfl rfl (by omega) ?_ | refine k_eqlF rfl rfl (by omega) ?_ | refine k_eql rfl rfl (fun hc => ?_) (fun hc => ?_) | refine k_neqT rfl rfl (by omega) ?_ | refine k_neqF rfl rfl (by omega) ?_ | refine k_neq rfl rfl (fun hc => ?_) (fun hc => ?_) | refine k_len rfl rfl ?_ | refine k_ok rfl rfl ?_))
    refine ⟨.inr rfl, oK_cell rfl c4.read ⟨eG, ?_⟩⟩
    unfold gatP
    rw [if_neg]
    · exact ⟨.nilS, rfl, IsD.nil _⟩
    · intro hall
      refine hns fun k hk => ?_
      have hk := (srt_perm K).mem_iff.1 hk
      by_cases hz : mc p.ts q.ts k = 0
      · show (mc p.ts q.ts k).natAbs ≤ cM
        rw [hz]; simp [cM]
      · have := kx.rg k hk
        exact hall (k, mc p.ts q.ts k) (fromC_mem.2 ⟨by omega, by omega, rfl, hz⟩)
end Go.Proofs.YtlnjddjobbhcaaaDoor
