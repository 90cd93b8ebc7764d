/- The reference's Diagram: its contract. -/
import Derived.Test.YtleoalcbgpjieaaDoorVF
import Derived.Test.YtleoalcbgpjieaaDoorGB
namespace Go.Proofs.YtleoalcbgpjieaaDoor
open Go.Ab
set_option linter.unusedVariables false
set_option linter.unusedSimpArgs false
set_option maxRecDepth 20000
set_option maxHeartbeats 4000000
attribute [local irreducible] wOps wA wSeq wBlk wRound wRoundI wOpsD wOpsS

theorem call42 (h0 : Heap) (Sg : SV) (S : List Int) (v : Vis) (hS : IsInts h0 Sg S) (v0 : 0 ≤ v.1) (v1 : v.1 < S.length) (hl : S.length ≤ 1000000) :
    ∃ w h', Cal FT HKt 42 [.sc Sg, .agg [.int .i64 v.1, .bool v.2]] h0 w h' ∧ Ext h0 h' ∧ w = .tup [.sc (.int .i64 (outG S v : Nat)), .sc (.int .i64 (inG S v : Nat))] := by
  refine Cal.of (F := a42) rfl rfl rfl ?_
  obtain ⟨c, o⟩ := v
  obtain ⟨k, rfl⟩ : ∃ k : Nat, c = (k : Int) := ⟨c.toNat, by simp only at v0; omega⟩
  simp only at v0 v1
  have hk : k < S.length := by omega
  cases o with
  | false =>
    have e1 : ((inG S ((k : Int), false) : Nat) : Int) = 4 * (k : Int) := by simp [inG]
    have e2 : ((outG S ((k : Int), false) : Nat) : Int) = 4 * (k : Int) + 2 := by simp [outG]
    rw [e1, e2]
    repeat' (first | refine w_seq ?_ | refine w_seqN ?_ | refine w_seqR ?_ | refine w_ret ?_ | refine w_ops ?_ | ((refine i_cond ?_); refine w_condT rfl ?_) | ((refine i_nil ?_); first | refine w_end2 rfl rfl ?_ | refine w_end3 rfl rfl rfl ?_ | refine w_end4 rfl rfl rfl rfl ?_) | ((refine i_cons ?_); first | (refine k_boxC rfl ?_; intro h2 f2 c2) | refine k_fldA rfl ?_ | refine k_ldC0 rfl c2 ?_ | refine k_ldC1 rfl c2 ?_ | refine k_mv rfl ?_ | refine k_notF rfl ?_ | refine k_add rfl rfl (by omega) ?_ | refine k_mul rfl rfl (by omega) ?_))
    exact ⟨.inr rfl, f2, rfl⟩
  | true =>
    obtain ⟨x, hx⟩ : ∃ x, S[k]? = some x := ⟨_, List.getElem?_eq_getElem hk⟩
    obtain ⟨id, off, cap, rfl, hr⟩ := IsInts.at hS hx
    have hgd : S.getD k 0 = x := by simp [List.getD, hx]
    by_cases h1 : x = 1
    · have e1 : ((inG S ((k : Int), true) : Nat) : Int) = 4 * (k : Int) + 3 := by simp [inG, hx, h1]
      have e2 : ((outG S ((k : Int), true) : Nat) : Int) = 4 * (k : Int) + 1 := by simp [outG, hx, h1]
      rw [e1, e2]
      repeat' (first | refine w_seq ?_ | refine w_seqN ?_ | refine w_seqR ?_ | refine w_skip ?_ | refine w_ret ?_ | refine w_ops ?_ | ((refine i_cond ?_); first | refine w_condT rfl ?_ | refine w_condF rfl ?_) | ((refine i_nil ?_); first | refine w_end2 rfl rfl ?_ | refine w_end3 rfl rfl rfl ?_ | refine w_end4 rfl rfl rfl rfl ?_) | ((refine i_cons ?_); first | (refine k_boxC rfl ?_; intro h2 f2 c2; have hr2 := readN_ext f2 hr) | refine k_fldA rfl ?_ | refine k_ldC0 rfl c2 ?_ | refine k_ldC1 rfl c2 ?_ | refine k_idxA (esz := 1) rfl rfl (by omega) ?_ | refine k_ld rfl hr2 ?_ | refine k_mv rfl ?_ | refine k_notT rfl ?_ | refine k_add rfl rfl (by omega) ?_ | refine k_mul rfl rfl (by omega) ?_ | refine k_eqlT rfl rfl (by omega) ?_))
      exact ⟨.inr rfl, f2, rfl⟩
    · have e1 : ((inG S ((k : Int), true) : Nat) : Int) = 4 * (k : Int) + 1 := by simp [inG, hx, h1]
      have e2 : ((outG S ((k : Int), true) : Nat) : Int) = 4 * (k : Int) + 3 := by simp [outG, hx, h1]
      rw [e1, e2]
      repeat' (first | refine w_seq ?_ | refine w_seqN ?_ | refine w_skip ?_ | refine w_ret ?_ | refine w_ops ?_ | ((refine i_cond ?_); refine w_condF rfl ?_) | ((refine i_nil ?_); first | refine w_end2 rfl rfl ?_ | refine w_end3 rfl rfl rfl ?_ | refine w_end4 rfl rfl rfl rfl ?_) | ((refine i_cons ?_); first | (refine k_boxC rfl ?_; intro h2 f2 c2; have hr2 := readN_ext f2 hr) | refine k_fldA rfl ?_ | refine k_ldC0 rfl c2 ?_ | refine k_ldC1 rfl c2 ?_ | refine k_idxA (esz := 1) rfl rfl (by omega) ?_ | refine k_ld rfl hr2 ?_ | refine k_mv rfl ?_ | refine k_notT rfl ?_ | refine k_add rfl rfl (by omega) ?_ | refine k_mul rfl rfl (by omega) ?_ | refine k_eqlF rfl rfl (by omega) ?_))
      exact ⟨.inr rfl, f2, rfl⟩
/-- While Diagram runs. -/
structure St23 (hb h : Heap) (q3 : Nat) (s' t : SV) (l : Int) (A : List Int) : Prop where
  e : Ext hb h
  o : Own hb h t (ints A)
  c : Cel3 h q3 s' t (.int .i64 l)
  n : NotAt t q3
theorem St23.ext {hb h h' : Heap} {q3 : Nat} {s' t : SV} {l : Int} {A : List Int} (s : St23 hb h q3 s' t l A) (e : Ext h h') : St23 hb h' q3 s' t l A := ⟨s.e.trans e, s.o.ext e, s.c.ext e, s.n⟩
theorem St23.put {hb h : Heap} {q3 : Nat} {s' t : SV} {l : Int} {A : List Int} (s : St23 hb h q3 s' t l A) {i : Nat} (hi : i < A.length) (x : Nat) :
    ∃ id cap h3, t = .slc id 0 A.length cap ∧ writeN h id (0 + i * 1) [.int .i64 (x : Nat)] = some h3 ∧ St23 hb h3 q3 s' t l (A.set i (x : Nat)) := by
  obtain ⟨id, cap, h3, e3, w3, o3, x3, f3, -⟩ := Own.wr s.e s.o (i := i) (by simpa using hi) (.int .i64 (x : Nat))
  refine ⟨id, cap, h3, by simpa using e3, w3, x3, ?_, (f3 _ _ s.c s.n).1, s.n⟩
  have : ints (A.set i (x : Nat)) = (ints A).set i (.int .i64 (x : Nat)) := by simp [ints, List.map_set]
  rw [this]; exact o3
def I23v (hb : Heap) (b q2 q3 : Nat) (s' t cs : SV) (l : Int) (i : Nat) (S : List Int) (c : List Vis) (A : List Int) (E : Env) (h : Heap) : Prop := ∃ k : Nat, k ≤ c.length ∧ St23 hb h q3 s' t l (mtC S c k A) ∧
  E.keep [1, 2, 3, 4, 5, 6] = [(1, some (.sc (.ptr b 0))), (2, some (.sc (.ptr q2 0))), (3, some (.sc (.ptr q3 0))), (4, some (.sc (.int .i64 (i : Nat)))), (5, some (.sc cs)), (6, some (.sc (.int .i64 (k : Nat))))]
def R23v (hb : Heap) (b q2 q3 : Nat) (s' t cs : SV) (l : Int) (i : Nat) (S : List Int) (c : List Vis) (A : List Int) (ex : Ex) (E : Env) (h : Heap) : Prop := ex = .ex 2 ∧ St23 hb h q3 s' t l (mtC S c c.length A) ∧ ∃ x y,
  E = [(1, some (.sc (.ptr b 0))), (2, some (.sc (.ptr q2 0))), (3, some (.sc (.ptr q3 0))), (4, some (.sc (.int .i64 (i : Nat)))), (5, some (.sc cs)), (6, x), (38, y)]
def cKK (ks : List Nat) (n t : Nat) (E : Env) (_ : Heap) : Nat := match (E.keep ks).get t with
  | some (.sc (.int _ i)) => n - i.toNat
  | _ => 0
theorem round23v (hb : Heap) (b q2 q3 : Nat) (X0 Sg s' t cs : SV) (l l' : Int) (i : Nat) (S : List Int) (c : List Vis) (A : List Int) (hbb : Blk.At hb b [X0, Sg, .int .i64 l']) (hS : IsInts hb Sg S) (hsl : S.length ≤ 1000000) (hc : IsVis hb cs c) (hcl : c.length ≤ 1000000) (hA : A.length = 4 * S.length)
    (hv : ∀ v ∈ c, 0 ≤ v.1 ∧ v.1 < S.length) (E : Env) (h : Heap) (hI : I23v hb b q2 q3 s' t cs l i S c A E h) :
    wA FT HKt b23L1 (E.keep [1, 2, 3, 4, 5, 6]) h (wRound (I23v hb b q2 q3 s' t cs l i S c A) (cKK [1, 2, 3, 4, 5, 6] c.length 6) (cKK [1, 2, 3, 4, 5, 6] c.length 6 E h) (R23v hb b q2 q3 s' t cs l i S c A)) := by
  obtain ⟨k, hk, st, hE⟩ := hI
  have hm : cKK [1, 2, 3, 4, 5, 6] c.length 6 E h = c.length - k := by unfold cKK; rw [hE]; rfl
  rw [hm, hE]
  have lc := hc.len
  by_cases hlt : k < c.length
  · obtain ⟨v, hx⟩ : ∃ v, c[k]? = some v := ⟨_, List.getElem?_eq_getElem hlt⟩
    have hm : (k + 1) % c.length < c.length := Nat.mod_lt _ (by omega)
    have hmi : ((k : Int) + 1) % (c.length : Int) = (((k + 1) % c.length : Nat) : Int) := by rw [Int.natCast_emod]; rfl
    have en0 := mtC.eq_2 S c A k
    generalize (k + 1) % c.length = q at *
    obtain ⟨w, hy⟩ : ∃ w, c[q]? = some w := ⟨_, List.getElem?_eq_getElem hm⟩
    have hv1 := hv v (List.mem_of_getElem? hx)
    have hw1 := hv w (List.mem_of_getElem? hy)
    obtain ⟨id, off, cap, rfl, hr0⟩ := hc.at hx
    obtain ⟨id', off', cap', hcs, hr20⟩ := hc.at hy
    cases hcs
    have hr := readN_ext st.e hr0
    have en : mtC S c (k + 1) A = ((mtC S c k A).set (outG S v) (inG S w : Nat)).set (inG S w) (outG S v : Nat) := by
      have g1 : c.getD k (0, false) = v := by simp [List.getD, hx]
      have g2 : c.getD q (0, false) = w := by simp [List.getD, hy]
      rw [en0, g1, g2]
    have hml := mtC_len S c A k
    have ho := outG_lt hv1.1 hv1.2
    have hi := inG_lt hw1.1 hw1.2
    have b0 := hbb.ext st.e
    have kv := fun H (eh : Ext hb H) => call42 H Sg S v (IsSl.ext hS eh) hv1.1 hv1.2 hsl
    have kw := fun H (eh : Ext hb H) => call42 H Sg S w (IsSl.ext hS eh) hw1.1 hw1.2 hsl
    repeat' (first | refine w_seq ?_ | refine w_seqN ?_ | refine w_blk ?_ | refine w_skip ?_ | refine w_ops ?_ | refine w_opsD ?_ | refine d_one ?_ | refine d_nil ?_ | ((refine i_cond ?_); refine w_condT rfl ?_) | ((refine i_nil ?_); first | refine d_same ?_ | refine d_ord ?_ | refine w_end7 rfl rfl rfl rfl rfl rfl rfl ?_ | refine w_end8 rfl rfl rfl rfl rfl rfl rfl rfl ?_) | ((refine i_cons ?_); first | refine k_fldA rfl ?_ | refine k_ldb rfl b3 rfl ?_ | refine k_ldb rfl b0 rfl ?_ | refine k_len rfl lc ?_ | refine k_idxA (esz := 2) rfl rfl (by omega) ?_ | refine op_ldA rfl rfl hr3 ?_ | refine op_ldA rfl rfl hr ?_ | (have z := e3; refine k_call rfl (kw h3 (st.e.trans e3)) ?_; rintro _ h4 ⟨e4, rfl⟩) | (refine k_call rfl (kv h st.e) ?_; rintro _ h3 ⟨e3, rfl⟩; have b3 := b0.ext e3; have hr3 := readN_ext (st.e.trans e3) hr20) | refine k_remE hmi rfl rfl (by omega) ?_ | refine k_mv rfl ?_ | refine k_add rfl rfl (by omega) ?_ | refine k_lssT rfl rfl (by omega) ?_ | refine k_ok rfl rfl ?_))
    have st4 := st.ext (e3.trans e4)
    obtain ⟨id1, cap1, h6, et, w6, st6⟩ := st4.put (i := outG S v) (by rw [hml, hA]; exact ho) (inG S w)
    obtain ⟨id2, cap2, h7, et2, w7, st7⟩ := st6.put (i := inG S w) (by rw [List.length_set, hml, hA]; exact hi) (outG S v)
    rw [hml, hA] at et
    rw [List.length_set, hml, hA] at et2
    subst et
    cases et2
    have b5 := st4.c.at
    have b6 := st6.c.at
    repeat' (first | refine w_seqN ?_ | refine w_blkN ?_ | refine w_ops ?_ | ((refine i_nil ?_); first | refine w_end6 rfl rfl rfl rfl rfl rfl ?_ | refine w_end8 rfl rfl rfl rfl rfl rfl rfl rfl ?_) | ((refine i_cons ?_); first | refine k_fldA rfl ?_ | refine k_ldb rfl b6 rfl ?_ | refine k_ldb rfl b5 rfl ?_ | refine k_idxA (esz := 1) rfl rfl (by omega) ?_ | refine k_st rfl rfl w6 ?_ | refine k_st rfl rfl w7 ?_ | refine k_mv rfl ?_ | refine k_add rfl rfl (by omega) ?_))
    exact w_roundN ⟨k + 1, by omega, by rw [en]; exact st7, rfl⟩ (by simp [cKK, Env.keep, Env.get]; omega)
  · have hke : k = c.length := by omega
    subst hke
    repeat' (first | refine w_seq ?_ | refine w_seqN ?_ | refine w_seqX ?_ | refine w_exit ?_ | refine w_ops ?_ | ((refine i_cond ?_); refine w_condF rfl ?_) | ((refine i_nil ?_); refine w_end7 rfl rfl rfl rfl rfl rfl rfl ?_) | ((refine i_cons ?_); first | refine k_len rfl lc ?_ | refine k_mv rfl ?_ | refine k_lssF rfl rfl (by omega) ?_))
    exact w_roundX ⟨rfl, st, _, _, rfl⟩
def I23c (hb : Heap) (b q2 q3 : Nat) (s' t : SV) (l : Int) (S : List Int) (C : List (List Vis)) (E : Env) (h : Heap) : Prop := ∃ i : Nat, i ≤ C.length ∧ St23 hb h q3 s' t l (mtG S C i) ∧
  E.keep [1, 2, 3, 4] = [(1, some (.sc (.ptr b 0))), (2, some (.sc (.ptr q2 0))), (3, some (.sc (.ptr q3 0))), (4, some (.sc (.int .i64 (i : Nat))))]
def R23c (hb : Heap) (q2 q3 : Nat) (s' t : SV) (l : Int) (S : List Int) (C : List (List Vis)) (ex : Ex) (E : Env) (h : Heap) : Prop := ex = .ex 0 ∧ St23 hb h q3 s' t l (mtG S C C.length) ∧ ∃ u x y,
  E = [(1, u), (2, some (.sc (.ptr q2 0))), (3, some (.sc (.ptr q3 0))), (4, x), (27, y)]
theorem round23c (hb : Heap) (b q2 q3 : Nat) (X Sg s' t : SV) (l : Int) (g : GC) (hbb : Blk.At hb b [X, Sg, .int .i64 g.L]) (hc : IsCode hb X Sg g) (hf : GFits g) (hv : ∀ v ∈ g.C.flatten, 0 ≤ v.1 ∧ v.1 < g.S.length) (E : Env) (h : Heap) (hI : I23c hb b q2 q3 s' t l g.S g.C E h) :
    wA FT HKt b23L0 (E.keep [1, 2, 3, 4]) h (wRound (I23c hb b q2 q3 s' t l g.S g.C) (cKK [1, 2, 3, 4] g.C.length 4) (cKK [1, 2, 3, 4] g.C.length 4 E h) (R23c hb q2 q3 s' t l g.S g.C)) := by
  obtain ⟨i, hi, st, hE⟩ := hI
  have hm : cKK [1, 2, 3, 4] g.C.length 4 E h = g.C.length - i := by unfold cKK; rw [hE]; rfl
  rw [hm, hE]
  have hcl := hf.c
  have lX := hc.x.len
  have b0 := hbb.ext st.e
  by_cases hlt : i < g.C.length
  · obtain ⟨c, hx⟩ : ∃ c, g.C[i]? = some c := ⟨_, List.getElem?_eq_getElem hlt⟩
    obtain ⟨id, off, cap, t1, rfl, hr, hvis⟩ := hc.x.at hx
    have hr' := readN_ext st.e hr
    have hvl : c.length ≤ 1000000 := by
      have h1 := flat_snoc hx
      have h2 := flat_le (C := g.C) (i + 1)
      rw [h1, List.length_append] at h2
      have := hf.v
      omega
    have en : mtG g.S g.C (i + 1) = mtC g.S c c.length (mtG g.S g.C i) := by
      have : g.C.getD i [] = c := by simp [List.getD, hx]
      rw [mtG, this]
    repeat' (first | refine w_seq ?_ | refine w_seqN ?_ | refine w_blk ?_ | refine w_skip ?_ | refine w_ops ?_ | ((refine i_cond ?_); refine w_condT rfl ?_) | ((refine i_nil ?_); first | refine w_end5 rfl rfl rfl rfl rfl ?_ | refine w_end6 rfl rfl rfl rfl rfl rfl ?_) | ((refine i_cons ?_); first | refine k_fldA rfl ?_ | refine k_ldb rfl b0 rfl ?_ | refine k_len rfl lX ?_ | refine k_idxA (esz := 1) rfl rfl (by omega) ?_ | refine k_ld rfl hr' ?_ | refine k_mv rfl ?_ | refine k_lssT rfl rfl (by omega) ?_))
    refine w_loop (I23v hb b q2 q3 s' t t1 l i g.S c (mtG g.S g.C i)) (cKK [1, 2, 3, 4, 5, 6] c.length 6) (R23v hb b q2 q3 s' t t1 l i g.S c (mtG g.S g.C i)) ⟨0, Nat.zero_le _, st, rfl⟩ (round23v hb b q2 q3 _ Sg s' t t1 l g.L i g.S c _ hbb hc.s hf.s hvis hvl (mtG_len _ _ _) (fun v hv1 => hv v (List.mem_flatten.2 ⟨c, List.mem_of_getElem? hx, hv1⟩))) ?_
    rintro ex E' h' ⟨rfl, st', x, y, rfl⟩
    repeat' (first | refine w_seqN ?_ | refine w_blkN ?_ | refine w_blkX ?_ | refine w_ops ?_ | ((refine i_nil ?_); refine w_end4 rfl rfl rfl rfl ?_) | ((refine i_cons ?_); first | refine k_mv rfl ?_ | refine k_add rfl rfl (by omega) ?_))
    exact w_roundN ⟨i + 1, by omega, by rw [en]; exact st', rfl⟩ (by simp [cKK, Env.keep, Env.get]; omega)
  · have hie : i = g.C.length := by omega
    subst hie
    repeat' (first | refine w_seq ?_ | refine w_seqN ?_ | refine w_seqX ?_ | refine w_exit ?_ | refine w_ops ?_ | ((refine i_cond ?_); refine w_condF rfl ?_) | ((refine i_nil ?_); refine w_end5 rfl rfl rfl rfl rfl ?_) | ((refine i_cons ?_); first | refine k_fldA rfl ?_ | refine k_ldb rfl b0 rfl ?_ | refine k_len rfl lX ?_ | refine k_mv rfl ?_ | refine k_lssF rfl rfl (by omega) ?_))
    exact w_roundX ⟨rfl, st, _, _, _, rfl⟩
theorem call23 (h0 : Heap) (X Sg : SV) (g : GC) (hc : IsCode h0 X Sg g) (hf : GFits g) (hv : ∀ v ∈ g.C.flatten, 0 ≤ v.1 ∧ v.1 < g.S.length) :
    ∃ v h', Cal FT HKt 23 [.agg [X, Sg, .int .i64 g.L]] h0 v h' ∧ Ext h0 h' ∧ ∃ s' t', v = .agg [s', t', .int .i64 g.L] ∧ IsInts h' s' g.S ∧ IsInts h' t' (mtV g) := by
  refine Cal.of (F := a23) rfl rfl rfl ?_
  have hsl := hf.s
  have lS := IsSl.len hc.s
  repeat' (first | refine w_seq ?_ | refine w_seqN ?_ | refine w_blk ?_ | refine w_ops ?_ | refine w_opsD ?_ | refine d_one ?_ | refine d_nil ?_ | ((refine i_nil ?_); first | refine d_same ?_ | refine d_ord ?_ | refine d_ext (by assumption) ?_ | refine w_end2 rfl rfl ?_ | refine w_end3 rfl rfl rfl ?_ | refine w_end4 rfl rfl rfl rfl ?_) | ((refine i_cons ?_); first | (refine k_box rfl rfl ?_; intro h1 e1 l1 b1) | (have c2' := c2; refine k_new3 ?_; intro h6 e6 l6 c6) | (refine k_new3 ?_; intro h2 e2 l2 c2; have b2 := b1.ext e2) | (refine k_lit0 ?_; intro h3 o3 e3; have b3 := b2.ext e3; have hsrc := IsInts.src (IsSl.ext hc.s (e1.trans (e2.trans e3)))) | refine k_fldA rfl ?_ | refine k_ldb rfl b5 rfl ?_ | refine k_ldb rfl b4 rfl ?_ | refine k_ldb rfl b3 rfl ?_ | refine k_len rfl lS ?_ | (refine k_app0 e3 o3 rfl rfl hsrc (by simp only [bigN, List.length_map]; omega) ?_; intro s4 h4 o4 e4 f4; have b4 := b3.ext e4) | (refine k_mkO (Ext.refl h4) rfl rfl (by simp only [bigN]; omega) ?_; intro t h5 o5 e5 e05 l5; have b5 := b4.ext e5) | refine k_bld rfl rfl ?_ | (refine k_st3 rfl rfl c6 ?_; intro h7 q7 c7) | refine k_mv rfl ?_ | refine k_mul rfl rfl (by omega) ?_))
  have n1 := e1.len
  have n2 := e2.len
  have n3 := e3.len
  have n4 := e4.len
  have n5 := e5.len
  have e47 : Ext h4 h7 := by rw [q7]; exact (e5.trans e6).set n5 _
  have nt : NotAt t h5.length := isSl_not o5.sl (Nat.le_refl _)
  have ot : Own h4 h7 t (ints (mtG g.S g.C 0)) := by
    have : (4 * (g.S.length : Int)).toNat = 4 * g.S.length := by omega
    rw [this] at o5
    have h := own_set (o5.ext e6) nt (.cells [s4, t, .int .i64 g.L] true 0)
    rw [q7]
    simpa [ints, mtG] using h
  have b4' := b4
  refine w_loop (I23c h4 h0.length h1.length h5.length s4 t g.L g.S g.C) (cKK [1, 2, 3, 4] g.C.length 4) (R23c h4 h1.length h5.length s4 t g.L g.S g.C) ⟨0, Nat.zero_le _, ⟨e47, ot, c7, nt⟩, rfl⟩ (round23c h4 h0.length h1.length h5.length X Sg s4 t g.L g b4 (hc.ext (e1.trans (e2.trans (e3.trans e4)))) hf hv) ?_
  rintro ex E' h8 ⟨rfl, st, u, x, y, rfl⟩
  have r8 : Cel3 h8 h1.length .nilS .nilS (.int .i64 0) := (c2.ext (e3.trans e4)).ext st.e
  have c8 := st.c
  repeat' (first | refine w_seq ?_ | refine w_seqN ?_ | refine w_blkX ?_ | refine w_ret ?_ | refine w_ops ?_ | ((refine i_nil ?_); refine w_end1 rfl ?_) | ((refine i_cons ?_); first | refine k_ld3 rfl c8 ?_ | (refine k_st3 rfl rfl r8 ?_; intro h9 q9 c9)))
  have e48 : Ext h0 h8 := (e1.trans (e2.trans (e3.trans e4))).trans st.e
  have e9 : Ext h0 h9 := by rw [q9]; exact e48.set (by omega) _
  have i4 : IsInts h4 s4 g.S := Ab.Own.ids (xs := g.S) (by simpa using o4)
  have nr : NotAt s4 h1.length := notAt_of_le o4 (by omega)
  have nu : NotAt t h1.length := notAt_of_le o5 (by omega)
  refine ⟨.inr rfl, oK_cell rfl c9.read ⟨e9, s4, t, rfl, ?_, ?_⟩⟩
  · rw [q9]
    exact IsSl.keep (IsSl.ext i4 st.e) fun j b hj ht => by rw [List.getElem?_set_ne (fun e => by subst e; exact ht nr)]; exact hj
  · rw [q9]
    exact IsSl.keep (Ab.Own.ids (xs := mtV g) st.o) fun j b hj ht => by rw [List.getElem?_set_ne (fun e => by subst e; exact ht nu)]; exact hj
end Go.Proofs.YtleoalcbgpjieaaDoor
