/- The reference's Graph (how many parts), Genus, Equal: contracts. -/
import Derived.Test.YtleoalcbgpjieaaDoorHD
import Derived.Test.YtleoalcbgpjieaaDoorGG2
import Derived.Test.YtleoalcbgpjieaaDoorGI
namespace Go.Proofs.YtleoalcbgpjieaaDoor
open Go.Ab
set_option linter.unusedVariables false
set_option linter.unusedSimpArgs false
set_option maxRecDepth 20000
set_option maxHeartbeats 4000000
attribute [local irreducible] wOps wA wSeq wBlk wRound wRoundI wOpsD wOpsS

/-! ### How many parts -/
/-- How many crossings below c are labelled by themselves. -/
def cntR (ls : List Int) (c : Nat) : Nat := ((List.range c).filter fun k => decide (ls.getD k 0 = (k : Int))).length
theorem cntR_succ (ls : List Int) (c : Nat) : cntR ls (c + 1) = cntR ls c + if ls.getD c 0 = (c : Int) then 1 else 0 := by
  unfold cntR
  rw [List.range_succ, List.filter_append, List.length_append]
  by_cases h : ls.getD c 0 = (c : Int)
  · rw [if_pos h, List.filter_cons_of_pos (by simpa using h)]; rfl
  · rw [if_neg h, List.filter_cons_of_neg (by simpa using h)]; rfl
theorem cntR_le (ls : List Int) (c : Nat) : cntR ls c ≤ c := by
  unfold cntR
  exact Nat.le_trans (List.length_filter_le _ _) (by rw [List.length_range]; exact Nat.le_refl _)
theorem rep_parts {ms ps : List Int} {n P : Nat} (hm : Mates ms) (hv : Inv ms) (hf : Fits ms n) (hp : Parts ms n ps P) : cntR (labIter ms n n) n = P := by
  let f : Nat → Nat := fun c => (ps.getD c 0).toNat
  let R := (List.range n).filter fun k => decide ((labIter ms n n).getD k 0 = (k : Int))
  have hR : ∀ c, c ∈ R ↔ c < n ∧ (labIter ms n n).getD c 0 = (c : Int) := fun c => by simp [R, List.mem_filter]
  have low : ∀ c, c ∈ R → ∀ d q, Reach ms q c d → c ≤ d := fun c hc d q hr => by
    obtain ⟨h1, h2⟩ := (hR c).1 hc
    obtain ⟨e, e1, e2, e3, e4⟩ := label_spec hm hv hf h1
    have : e = c := by rw [h2] at e1; omega
    subst this
    exact e4 d q hr
  show R.length = P
  have h1 : R.length ≤ P := by
    have hnd : (R.map f).Nodup := by
      unfold List.Nodup
      rw [List.pairwise_map]
      refine List.Pairwise.imp_of_mem ?_ (List.Pairwise.filter _ (List.nodup_range (n := n)))
      intro a b ha hb hab he
      obtain ⟨a1, a2⟩ := (hR a).1 ha
      obtain ⟨b1, b2⟩ := (hR b).1 hb
      obtain ⟨p, p1, p2⟩ := hp.rng a a1
      obtain ⟨q, q1, q2⟩ := hp.rng b b1
      simp only [f, p1, q1, Int.toNat_natCast] at he
      obtain ⟨k, hk⟩ := (hp.same a b a1 b1).1 (by rw [p1, q1, he])
      have := low a ha b k hk
      have := low b hb a k (Reach.symm hm hv hk)
      omega
    have := fit_len (T := List.range P) hnd fun y hy => by
      obtain ⟨c, hc, rfl⟩ := List.mem_map.1 hy
      obtain ⟨p, p1, p2⟩ := hp.rng c ((hR c).1 hc).1
      simp only [f, p1, Int.toNat_natCast]
      exact List.mem_range.2 p2
    rw [List.length_map, List.length_range] at this
    exact this
  have h2 : P ≤ R.length := by
    have := fit_len (ys := List.range P) (T := R.map f) List.nodup_range fun p hp1 => by
      obtain ⟨c, c1, c2⟩ := hp.hit p (List.mem_range.1 hp1)
      obtain ⟨e, e1, e2, ⟨q, e3⟩, e4⟩ := label_spec hm hv hf c1
      obtain ⟨e', g1, g2, ⟨q', g3⟩, g4⟩ := label_spec hm hv hf e2
      have a1 := g4 e 0 rfl
      have a2 := e4 e' _ (Reach.trans e3 g3)
      have a3 : e' = e := by omega
      subst a3
      refine List.mem_map.2 ⟨e', (hR e').2 ⟨e2, g1⟩, ?_⟩
      have := (hp.same c e' c1 e2).2 ⟨q, e3⟩
      simp only [f, ← this, c2, Int.toNat_natCast]
    rw [List.length_map, List.length_range] at this
    exact this
  omega
/-! ### Graph -/
def I41k (hc : Heap) (u o : SV) (n c : Nat) (E : Env) (h : Heap) : Prop := ∃ (k : Nat) (t : SV) (vs : List SV), k ≤ n ∧ vs.length ≤ k ∧ Ext hc h ∧ Own hc h t vs ∧
  E.keep [3, 4, 5, 6, 7] = [(3, some (.sc u)), (4, some (.sc o)), (5, some (.sc (.int .i64 (c : Nat)))), (6, some (.sc t)), (7, some (.sc (.int .i64 (k : Nat))))]
def R41k (hc : Heap) (u o : SV) (c : Nat) (ex : Ex) (E : Env) (h : Heap) : Prop := ex = .ex 2 ∧ Ext hc h ∧ ∃ t x y,
  E = [(3, some (.sc u)), (4, some (.sc o)), (5, some (.sc (.int .i64 (c : Nat)))), (6, some (.sc t)), (7, x), (25, y)]
theorem round41k (hc : Heap) (u o : SV) (ls : List Int) (hu : IsInts hc u ls) (hl : ls.length ≤ 1000) (c : Nat) (E : Env) (h : Heap) (hI : I41k hc u o ls.length c E h) :
    wA FT HKt b41L1 (E.keep [3, 4, 5, 6, 7]) h (wRound (I41k hc u o ls.length c) (cKK [3, 4, 5, 6, 7] ls.length 7) (cKK [3, 4, 5, 6, 7] ls.length 7 E h) (R41k hc u o c)) := by
  obtain ⟨k, t, vs, hk, hvs, e, ow, hE⟩ := hI
  have hm : cKK [3, 4, 5, 6, 7] ls.length 7 E h = ls.length - k := by unfold cKK; rw [hE]; rfl
  rw [hm, hE]
  have lu := IsSl.len hu
  by_cases hlt : k < ls.length
  · obtain ⟨x, hx⟩ : ∃ x, ls[k]? = some x := ⟨_, List.getElem?_eq_getElem hlt⟩
    obtain ⟨id, off, cap, rfl, hr0⟩ := IsInts.at hu hx
    have hr := readN_ext e hr0
    by_cases hxc : x = (c : Int)
    · subst hxc
      repeat' (first | refine w_seq ?_ | refine w_seqN ?_ | refine w_blk ?_ | refine w_blkN ?_ | refine w_skip ?_ | refine w_ops ?_ | ((refine i_cond ?_); refine w_condT rfl ?_) | ((refine i_nil ?_); first | refine w_end5 rfl rfl rfl rfl rfl ?_ | refine w_end6 rfl rfl rfl rfl rfl rfl ?_) | ((refine i_cons ?_); first | refine k_len rfl lu ?_ | refine k_idxA (esz := 1) rfl rfl (by omega) ?_ | refine k_ld rfl hr ?_ | (refine k_push e ow rfl rfl (by simp only [bigN]; omega) ?_; intro s1 h3 o3 e3 f3) | refine k_mv rfl ?_ | refine k_add rfl rfl (by omega) ?_ | refine k_lssT rfl rfl (by omega) ?_ | refine k_eqlT rfl rfl (by omega) ?_))
      exact w_roundN ⟨k + 1, s1, _, by omega, by rw [List.length_append, List.length_singleton]; omega, e3, o3, rfl⟩ (by simp [cKK, Env.keep, Env.get]; omega)
    · repeat' (first | refine w_seq ?_ | refine w_seqN ?_ | refine w_blk ?_ | refine w_blkN ?_ | refine w_skip ?_ | refine w_ops ?_ | ((refine i_cond ?_); first | refine w_condT rfl ?_ | refine w_condF rfl ?_) | ((refine i_nil ?_); first | refine w_end5 rfl rfl rfl rfl rfl ?_ | refine w_end6 rfl rfl rfl rfl rfl rfl ?_) | ((refine i_cons ?_); first | refine k_len rfl lu ?_ | refine k_idxA (esz := 1) rfl rfl (by omega) ?_ | refine k_ld rfl hr ?_ | refine k_mv rfl ?_ | refine k_add rfl rfl (by omega) ?_ | refine k_lssT rfl rfl (by omega) ?_ | refine k_eqlF rfl rfl (by omega) ?_))
      exact w_roundN ⟨k + 1, t, vs, by omega, by omega, e, ow, rfl⟩ (by simp [cKK, Env.keep, Env.get]; omega)
  · have : k = ls.length := by omega
    subst this
    repeat' (first | refine w_seq ?_ | refine w_seqN ?_ | refine w_seqX ?_ | refine w_exit ?_ | refine w_ops ?_ | ((refine i_cond ?_); refine w_condF rfl ?_) | ((refine i_nil ?_); refine w_end6 rfl rfl rfl rfl rfl rfl ?_) | ((refine i_cons ?_); first | refine k_len rfl lu ?_ | refine k_mv rfl ?_ | refine k_lssF rfl rfl (by omega) ?_))
    exact w_roundX ⟨rfl, e, t, _, _, rfl⟩
def I41c (h1 : Heap) (u : SV) (ls : List Int) (E : Env) (h : Heap) : Prop := ∃ (c : Nat) (o : SV) (vs : List SV), c ≤ ls.length ∧ vs.length = cntR ls c ∧ Ext h1 h ∧ Own h1 h o vs ∧
  E.keep [3, 4, 5] = [(3, some (.sc u)), (4, some (.sc o)), (5, some (.sc (.int .i64 (c : Nat))))]
def R41c (h1 : Heap) (ls : List Int) (ex : Ex) (E : Env) (h : Heap) : Prop := ex = .ex 0 ∧ Ext h1 h ∧ ∃ o vs x y z, vs.length = cntR ls ls.length ∧ Own h1 h o vs ∧
  E = [(3, x), (4, some (.sc o)), (5, y), (13, z)]
theorem round41c (h1 : Heap) (u : SV) (ls : List Int) (hu : IsInts h1 u ls) (hl : ls.length ≤ 1000) (E : Env) (h : Heap) (hI : I41c h1 u ls E h) :
    wA FT HKt b41L0 (E.keep [3, 4, 5]) h (wRound (I41c h1 u ls) (cKK [3, 4, 5] ls.length 5) (cKK [3, 4, 5] ls.length 5 E h) (R41c h1 ls)) := by
  obtain ⟨c, o, vs, hc, hvs, e, ow, hE⟩ := hI
  have hm : cKK [3, 4, 5] ls.length 5 E h = ls.length - c := by unfold cKK; rw [hE]; rfl
  rw [hm, hE]
  have lu := IsSl.len hu
  by_cases hlt : c < ls.length
  · obtain ⟨x, hx⟩ : ∃ x, ls[c]? = some x := ⟨_, List.getElem?_eq_getElem hlt⟩
    have hu' := IsSl.ext hu e
    obtain ⟨id, off, cap, rfl, hr0⟩ := IsInts.at hu hx
    have hr := readN_ext e hr0
    have hcn := cntR_le ls c
    have es := cntR_succ ls c
    rw [getD_at hx] at es
    by_cases hxc : x = (c : Int)
    · rw [if_pos hxc] at es
      subst hxc
      repeat' (first | refine w_seq ?_ | refine w_seqN ?_ | refine w_blk ?_ | refine w_skip ?_ | refine w_ops ?_ | ((refine i_cond ?_); first | refine w_condT rfl ?_ | refine w_condF rfl ?_) | ((refine i_nil ?_); first | refine w_end4 rfl rfl rfl rfl ?_ | refine w_end5 rfl rfl rfl rfl rfl ?_) | ((refine i_cons ?_); first | refine k_len rfl lu ?_ | refine k_idxA (esz := 1) rfl rfl (by omega) ?_ | refine k_ld rfl hr ?_ | refine k_mv rfl ?_ | refine k_lssT rfl rfl (by omega) ?_ | refine k_neqF rfl rfl (by omega) ?_))
      refine w_loop (I41k h _ o ls.length c) (cKK [3, 4, 5, 6, 7] ls.length 7) (R41k h _ o c) ⟨0, .nilS, [], Nat.zero_le _, Nat.zero_le _, Ext.refl _, .inl ⟨rfl, rfl⟩, rfl⟩ (round41k h _ o ls hu' hl c) ?_
      rintro ex E' h2 ⟨rfl, e2, t, x, y, rfl⟩
      have o2 := ow.ext e2
      have x2 := e.trans e2
      repeat' (first | refine w_seqN ?_ | refine w_blkN ?_ | refine w_blkX ?_ | refine w_ops ?_ | ((refine i_nil ?_); refine w_end3 rfl rfl rfl ?_) | ((refine i_cons ?_); first | (refine k_push x2 o2 rfl rfl (by simp only [bigN]; omega) ?_; intro s1 h3 o3 e3 f3) | refine k_mv rfl ?_ | refine k_add rfl rfl (by omega) ?_))
      exact w_roundN ⟨c + 1, s1, _, by omega, by rw [List.length_append, List.length_singleton, es, hvs], e3, o3, rfl⟩ (by simp [cKK, Env.keep, Env.get]; omega)
    · rw [if_neg hxc, Nat.add_zero] at es
      repeat' (first | refine w_seq ?_ | refine w_seqN ?_ | refine w_seqX ?_ | refine w_blk ?_ | refine w_blkX ?_ | refine w_skip ?_ | refine w_exit ?_ | refine w_ops ?_ | ((refine i_cond ?_); refine w_condT rfl ?_) | ((refine i_nil ?_); first | refine w_end3 rfl rfl rfl ?_ | refine w_end4 rfl rfl rfl rfl ?_) | ((refine i_cons ?_); first | refine k_len rfl lu ?_ | refine k_idxA (esz := 1) rfl rfl (by omega) ?_ | refine k_ld rfl hr ?_ | refine k_mv rfl ?_ | refine k_add rfl rfl (by omega) ?_ | refine k_lssT rfl rfl (by omega) ?_ | refine k_neqT rfl rfl (by omega) ?_))
      exact w_roundN ⟨c + 1, o, vs, by omega, by omega, e, ow, rfl⟩ (by simp [cKK, Env.keep, Env.get]; omega)
  · have : c = ls.length := by omega
    subst this
    repeat' (first | refine w_seq ?_ | refine w_seqN ?_ | refine w_seqX ?_ | refine w_exit ?_ | refine w_ops ?_ | ((refine i_cond ?_); refine w_condF rfl ?_) | ((refine i_nil ?_); refine w_end4 rfl rfl rfl rfl ?_) | ((refine i_cons ?_); first | refine k_len rfl lu ?_ | refine k_mv rfl ?_ | refine k_lssF rfl rfl (by omega) ?_))
    exact w_roundX ⟨rfl, e, o, vs, _, _, _, hvs, ow, rfl⟩
theorem call41 (h0 : Heap) (s : SV) (ms : List Int) (n : Nat) (hs : IsInts h0 s ms) (hm : Mates ms) (hn : n * 4 = ms.length) :
    ∃ v h', Cal FT HKt 41 [.sc s] h0 v h' ∧ Ext h0 h' ∧ ∃ o, v = .sc o ∧ lenS false o = some ((cntR (labIter ms n n) n : Nat) : Int) := by
  refine Cal.of (F := a41) rfl rfl rfl ?_
  have hml := hm.len
  have k32 := call32 (HK := HKt) rfl h0 s ms n hs hm hn
  have ll := labIter_len ms n n
  repeat' (first | refine w_seq ?_ | refine w_seqN ?_ | refine w_blk ?_ | refine w_ops ?_ | ((refine i_nil ?_); first | refine w_end1 rfl ?_ | refine w_end2 rfl rfl ?_ | refine w_end3 rfl rfl rfl ?_) | ((refine i_cons ?_); first | (refine k_call rfl k32 ?_; rintro v h1 ⟨rfl, rfl⟩) | refine k_mv rfl ?_))
  have e1 : Ext h0 (LB h0 (labIter ms n n)) := ⟨_, rfl⟩
  have hu : IsInts (LB h0 (labIter ms n n)) (.slc h0.length 0 n (some n)) (labIter ms n n) := by
    refine .inr ⟨h0.length, 0, some n, .cells ((labIter ms n n).map (.int .i64)) true 1, by rw [ll], by simp [LB], rfl, fun h => ?_, fun _ => ⟨_, _, rfl, ?_⟩⟩
    · rw [List.eq_nil_of_length_eq_zero h]; rfl
    · simp [cut]
      rw [List.take_of_length_le (by simp)]
  have hl2 : (labIter ms n n).length ≤ 1000 := by omega
  refine w_loop (I41c (LB h0 (labIter ms n n)) (.slc h0.length 0 n (some n)) (labIter ms n n)) (cKK [3, 4, 5] (labIter ms n n).length 5) (R41c (LB h0 (labIter ms n n)) (labIter ms n n)) ⟨0, .nilS, [], Nat.zero_le _, rfl, Ext.refl _, .inl ⟨rfl, rfl⟩, rfl⟩ (round41c (LB h0 (labIter ms n n)) _ (labIter ms n n) hu hl2) ?_
  rintro ex E' h2 ⟨rfl, e2, o, vs, x, y, z, hvs, ow, rfl⟩
  repeat' (first | refine w_seq ?_ | refine w_seqN ?_ | refine w_blkX ?_ | refine w_ret ?_ | refine w_ops ?_ | ((refine i_nil ?_); refine w_end1 rfl ?_) | ((refine i_cons ?_); refine k_mv rfl ?_))
  exact ⟨.inr rfl, e1.trans e2, o, rfl, by rw [ow.len, hvs, ll]⟩
/-! ### Genus -/
theorem call21 (h0 : Heap) (X Sg : SV) (g : GC) (hc : IsCode h0 X Sg g) (hf : GFits g) (hg : VG g) (P : Nat) (ps : List Int) (hp : Parts (mtV g) g.S.length ps P) :
    ∃ v h', Cal FT HKt 21 [.agg [X, Sg, .int .i64 g.L]] h0 v h' ∧ Ext h0 h' ∧ v = .sc (.int .i64 ((2 * (P : Int) + g.S.length - (leasts (mtV g) (mtV g).length).length).tdiv 2)) := by
  refine Cal.of (F := a21) rfl rfl rfl ?_
  have hF := hg.front
  have h64 := hF.n64
  have h4 := hF.four
  have k23 := fun H (e : Ext h0 H) => call23 H X Sg g (hc.ext e) hf hg.2.2.2.2.1
  have k33 := fun H t (i : IsInts H t (mtV g)) => call33 (HK := HKt) rfl rfl rfl H t (mtV g) i hF.mates hF.inv
  have k41 := fun H t (i : IsInts H t (mtV g)) => call41 H t (mtV g) g.S.length i hF.mates (by omega)
  rw [rep_parts hF.mates hF.inv hF.fits hp] at k41
  have hP : P ≤ g.S.length := by rw [← rep_parts hF.mates hF.inv hF.fits hp]; exact cntR_le _ _
  have hlt := leasts_le (mtV g) (mtV g).length
  generalize mtV g = ms at *
  generalize hLn : (leasts ms ms.length).length = LN at *
  repeat' (first | refine w_seq ?_ | refine w_seqN ?_ | refine w_ops ?_ | refine w_opsD ?_ | refine d_one ?_ | ((refine i_nil ?_); first | refine d_same ?_ | refine w_end1 rfl ?_) | ((refine i_cons ?_); first | (refine k_box rfl rfl ?_; intro h1 e1 l1 b1) | refine k_ldA rfl b1 rfl ?_ | (refine k_call rfl (k23 h1 e1) ?_; rintro v h2 ⟨e2, s', t', rfl, i1, i2⟩; have lS := IsSl.len i1) | (refine k_new3 ?_; intro h3 e3 l3 c3) | (refine k_st3 rfl rfl c3 ?_; intro h4' q4 c4) | refine k_mv rfl ?_ | refine k_ok rfl rfl ?_))
  have e4 : Ext h2 h4' := by rw [q4]; exact e3.set (Nat.le_refl _) _
  have ns : NotAt s' h2.length := isSl_not i1 (Nat.le_refl _)
  have b4 := c4.at
  have i2' := IsSl.ext i2 e4
  repeat' (first | refine w_seq ?_ | refine w_seqN ?_ | refine w_ret ?_ | refine w_ops ?_ | refine d_one ?_ | refine d_nil ?_ | ((refine i_nil ?_); first | refine d_same ?_ | refine d_ext (by assumption) ?_ | refine w_end1 rfl ?_ | refine w_end3 rfl rfl rfl ?_) | ((refine i_cons ?_); first | refine k_fldA rfl ?_ | refine k_ldb rfl b5 rfl ?_ | refine k_ldb rfl b4 rfl ?_ | refine k_len rfl lS ?_ | refine k_len rfl lf ?_ | refine k_len rfl lo ?_ | (refine k_call rfl (k33 h4' t' i2') ?_; rintro v h5 ⟨e5, o, fs, rfl, ow, f2⟩; have b5 := b4.ext e5; have i5 := IsSl.ext i2' e5; have lf : lenS false o = some (LN : Int) := by rw [ow.len, f2.length, hLn]) | (refine k_call rfl (k41 h5 t' i5) ?_; rintro v h6 ⟨e6, o6, rfl, lo⟩; have b6 := b5.ext e6) | refine k_quo2 rfl rfl (by omega) ?_ | refine k_mv rfl ?_ | refine k_add rfl rfl (by omega) ?_ | refine k_sub rfl rfl (by omega) ?_ | refine k_mul rfl rfl (by omega) ?_))
  exact ⟨.inr rfl, (e1.trans (e2.trans (e4.trans e5))).trans e6, rfl⟩
end Go.Proofs.YtleoalcbgpjieaaDoor
