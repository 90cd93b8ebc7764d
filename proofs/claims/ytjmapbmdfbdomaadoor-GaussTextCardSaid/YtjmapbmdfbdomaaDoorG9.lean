/- gauss.Parse: its contract. -/
import Derived.Test.YtjmapbmdfbdomaaDoorG8
namespace Go.Proofs.YtjmapbmdfbdomaaDoor
open Go.Ab
set_option linter.unusedVariables false
set_option linter.unusedSimpArgs false
set_option maxRecDepth 20000
attribute [local irreducible] wOps wA wSeq wBlk wRound wOpsD

theorem fsh_nil (h : Heap) : Fsh h .nilS := fun j _ o n c e => (by cases e)
theorem Pq.ext {h0 H h h' : Heap} {qc : Nat} {sg X : SV} {A : List Int} {C : List (List Vis)} {L : Int} (s : Pq h0 H h qc sg X A C L) (e : Ext h h') : Pq h0 H h' qc sg X A C L := by
  obtain ⟨ss, x1, x2, x3⟩ := s.x
  exact ⟨s.e.trans e, Nat.le_trans s.len e.len, fun j b a b' c => e.get _ _ (s.kp j b a b' c), s.c.ext e, s.o.ext e, ⟨ss, x1, x2.ext e, fun i t vs a b => ⟨(x3 i t vs a b).1.ext e, (x3 i t vs a b).2⟩⟩, s.xf⟩
theorem ints_set {h : Heap} {t : SV} {xs : List Int} {B : Nat} (hv : IsInts h t xs) (hn : NotAt t B) (b : Blk) : IsInts (h.set B b) t xs :=
  IsSl.keep hv fun j x hj hx => by rw [List.getElem?_set_ne (fun e => by subst e; exact hx hn)]; exact hj
/-- A code that lies away from a block. -/
structure CodeAt (h : Heap) (X Sg : SV) (g : GC) (N : Nat) : Prop where
  x : ∃ ss : List SV, ss.length = g.C.length ∧ IsSl h X 1 ss.length ss ∧ ∀ (i : Nat) (t : SV) (vs : List Vis), ss[i]? = some t → g.C[i]? = some vs → IsVis h t vs ∧ ∀ j, j < N → NotAt t j
  xn : ∀ j, j < N → NotAt X j
  s : IsInts h Sg g.S
  sn : ∀ j, j < N → NotAt Sg j
theorem CodeAt.code {h : Heap} {X Sg : SV} {g : GC} {N : Nat} (c : CodeAt h X Sg g N) : IsCode h X Sg g := by
  obtain ⟨ss, a, b, d⟩ := c.x
  exact ⟨⟨ss, a, b, fun i t vs e f => (d i t vs e f).1⟩, c.s⟩
theorem CodeAt.ext {h h' : Heap} {X Sg : SV} {g : GC} {N : Nat} (c : CodeAt h X Sg g N) (e : Ext h h') : CodeAt h' X Sg g N := by
  obtain ⟨ss, a, b, d⟩ := c.x
  exact ⟨⟨ss, a, IsSl.ext b e, fun i t vs p q => ⟨(d i t vs p q).1.ext e, (d i t vs p q).2⟩⟩, c.xn, IsSl.ext c.s e, c.sn⟩
theorem CodeAt.set {h : Heap} {X Sg : SV} {g : GC} {N B : Nat} (c : CodeAt h X Sg g N) (hB : B < N) (b : Blk) : CodeAt (h.set B b) X Sg g N := by
  obtain ⟨ss, a, k, d⟩ := c.x
  refine ⟨⟨ss, a, IsSl.keep k fun j x hj hx => by rw [List.getElem?_set_ne (fun e => by subst e; exact hx (c.xn _ hB))]; exact hj, fun i t vs p q => ⟨vis_set (d i t vs p q).1 ((d i t vs p q).2 _ hB) _, (d i t vs p q).2⟩⟩, c.xn, ints_set c.s (c.sn _ hB) _, c.sn⟩
theorem Pq.code {h0 H h : Heap} {qc : Nat} {sg X Sg : SV} {A S : List Int} {C : List (List Vis)} {L : Int} (s : Pq h0 H h qc sg X A C L) (hS : IsInts h Sg S) (hn : Fsh H Sg) : CodeAt h X Sg ⟨C, S, L⟩ H.length := by
  obtain ⟨ss, x1, x2, x3⟩ := s.x
  exact ⟨⟨ss, x1, x2.sl, fun i t vs a b => ⟨(x3 i t vs a b).1, (x3 i t vs a b).2.2⟩⟩, s.xf, hS, hn⟩
theorem fgo : ∀ (f : Nat) (cur l : List UInt8), (Lib.fieldsGoD f cur l).flatten.length ≤ cur.length + l.length ∧ ∀ w ∈ Lib.fieldsGoD f cur l, w ≠ []
  | 0, cur, l => by
    unfold Lib.fieldsGoD
    by_cases h : cur = []
    · simp [h]
    · simp [h]
  | f + 1, cur, l => by
    unfold Lib.fieldsGoD
    have i1 := fgo f [] (l.drop (Lib.decodeL l).2)
    have i2 := fgo f (cur ++ l.take (Lib.decodeL l).2) (l.drop (Lib.decodeL l).2)
    simp only [List.length_nil, List.length_append, List.length_take, List.length_drop] at i1 i2
    split
    · by_cases h : cur = []
      · simp [h]
      · simp [h]
    · split
      · refine ⟨?_, fun w hw => ?_⟩
        · rw [List.flatten_append, List.length_append]
          have := i1.1
          by_cases h : cur = []
          · simp only [if_pos h, List.flatten_nil, List.length_nil]; omega
          · simp only [if_neg h, List.flatten_cons, List.flatten_nil, List.append_nil]; omega
        · rcases List.mem_append.1 hw with hw | hw
          · by_cases h : cur = []
            · simp [h] at hw
            · simp only [if_neg h, List.mem_singleton] at hw; subst hw; exact h
          · exact i1.2 w hw
      · exact ⟨by have := i2.1; omega, i2.2⟩
theorem flat_count : ∀ (L : List (List UInt8)), (∀ w ∈ L, w ≠ []) → L.length ≤ L.flatten.length ∧ ∀ w ∈ L, w.length ≤ L.flatten.length
  | [], _ => ⟨Nat.zero_le _, by simp⟩
  | w :: r, h => by
    have := flat_count r (fun x hx => h x (by simp [hx]))
    have hw := List.length_pos_iff.2 (h w (by simp))
    simp only [List.length_cons, List.flatten_cons, List.length_append]
    refine ⟨by omega, fun x hx => ?_⟩
    rcases List.mem_cons.1 hx with rfl | hx
    · omega
    · have := this.2 x hx; omega
theorem fields_flat (s : List UInt8) : (Lib.fieldsD s).flatten.length ≤ s.length ∧ (Lib.fieldsD s).length ≤ s.length ∧ ∀ w ∈ Lib.fieldsD s, w.length ≤ s.length := by
  have h1 := fgo (s.length + 1) [] s
  have h2 := flat_count _ h1.2
  simp only [List.length_nil, Nat.zero_add] at h1
  exact ⟨h1.1, Nat.le_trans h2.1 h1.1, fun w hw => Nat.le_trans (h2.2 w hw) h1.1⟩
theorem Cel3.set_ne {h : Heap} {q B : Nat} {a b c : SV} (k : Cel3 h q a b c) (hn : q ≠ B) (x : Blk) : Cel3 (h.set B x) q a b c := by
  unfold Cel3 at k ⊢
  rw [List.getElem?_set_ne (fun e => hn e.symm)]; exact k

set_option maxHeartbeats 8000000 in
theorem call11 (h0 : Heap) (s : List UInt8) (hl : s.length ≤ 60000) : ∃ v h', Cal FT HKt 11 [.sc (tb s)] h0 v h' ∧ Ext h0 h' ∧ match parseG s with
      | some g => ∃ X Sg, v = .tup [.agg [X, Sg, .int .i64 g.L], .sc (.int .i64 0)] ∧ IsCode h' X Sg g ∧ Fits g
      | none => v = .tup [.agg [.nilS, .nilS, .int .i64 0], .sc (.int .i64 3)] := by
  refine Cal.of (F := a11) rfl rfl rfl ?_
  obtain ⟨ff1, ff2, ff3⟩ := fields_flat s
  generalize hws : Lib.fieldsD s = ws at *
  unfold parseG
  rw [hws]
  generalize hR : candW ws (List.replicate 64 0) [] 0 = R
  have k1 := fun h => fields_callF (h := h) s (by omega)
  rw [hws] at k1
  repeat' (first | refine w_seq ?_ | refine w_seqN ?_ | refine w_blk ?_ | refine w_skip ?_ | refine w_ops ?_ | ((refine i_cond ?_); refine w_condF rfl ?_) | ((refine i_nil ?_); first | refine w_end2 rfl rfl ?_ | refine w_end3 rfl rfl rfl ?_ | refine w_end4 rfl rfl rfl rfl ?_ | refine w_end7 rfl rfl rfl rfl rfl rfl rfl ?_) | ((refine i_cons ?_); first | (have l1' := l1; refine k_new3 ?_; intro h2 e2 l2 c2) | (refine k_new3 ?_; intro h1 e1 l1 c1) | refine k_slen rfl ?_ | (refine k_mkO (Ext.refl h2) rfl rfl (by simp only [bigN]; omega) ?_; intro sg h3 o3 e3 x3 l3) | (refine k_call rfl (k1 h3) ?_; rintro v H ⟨q, rfl, e4, s4, n4⟩; have lq := IsSl.len s4) | refine k_len rfl lq ?_ | refine k_mv rfl ?_ | refine k_gtrF rfl rfl (by omega) ?_))
  have o3' : Own h2 h3 sg (ints (List.replicate 64 0)) := by
    have : ints (List.replicate 64 0) = List.replicate (64 : Int).toNat (SV.int .i64 0) := by simp [ints]
    rw [this]; exact o3
  have ol1 := e1.len
  have ol2 := e2.len
  have ol3 := e3.len
  have ol4 := e4.len
  have x02 : Ext h0 h2 := e1.trans e2
  have x0H : Ext h0 H := (x02.trans e3).trans e4
  have oH : Own h0 H sg (ints (List.replicate 64 0)) := (o3'.weaken x02.len).ext e4
  have ps : PS h0 H h1.length sg := ⟨by omega, by omega, fun j hj => by
    rcases o3' with ⟨rfl, -⟩ | ⟨id, cap, cs, rfl, -, k, -⟩
    · intro o n c e; cases e
    · have := (List.getElem?_eq_some_iff.1 k).1
      intro o n c e
      injection e with e1
      omega, notAt_of_le o3' (by omega)⟩
  have pt : PT h0 H h1.length h0.length sg q ws := ⟨ps, Nat.le_refl _, by omega, notAt_of_le o3' (by omega), ((c1.ext e2).ext e3).ext e4, s4, n4 _ (by omega), apart_new o3' n4⟩
  have pq : Pq h0 H H h1.length sg .nilS (List.replicate 64 0) [] 0 := ⟨x0H, Nat.le_refl _, fun _ _ h _ _ => h, (c2.ext e3).ext e4, oH, ⟨[], rfl, .inl ⟨rfl, rfl⟩, by simp⟩, fsh_nil _⟩
  have bd : Bd (List.replicate 64 0) [] 0 (ws.take 0).flatten.length 0 := ⟨⟨by simp, fun x hx => by rw [List.eq_of_mem_replicate hx]; omega⟩, by simp, by simp, by simp, by omega, by simp⟩
  refine w_loop (I11 h0 H h1.length h0.length sg q s ws R) (cnt ws.length 21) (R11 h0 H h1.length h0.length sg s ws R) ⟨0, _, [], 0, .nilS, Nat.zero_le _, pq, by simpa using hR, bd, rfl⟩ (round11 h0 H _ _ sg q s ws R pt (by omega) (fun w hw => by have := ff3 w hw; omega)) ?_
  intro ex E' h' hRR
  cases ex with
  | nm => exact hRR.elim
  | rt =>
    obtain ⟨rfl, rfl, c5, e5⟩ := hRR
    repeat' (first | refine w_seqR ?_ | refine w_blkR ?_)
    exact ⟨.inr rfl, oK_cellt rfl c5.read rfl ⟨e5, rfl⟩⟩
  | ex z =>
    obtain ⟨rfl, A, C, L, X, a, b, c, d, rfl, st, bdE, rfl⟩ := hRR
    have hlA : lenS false sg = some ((A.length : Nat) : Int) := by have := Own.len st.o; rwa [List.length_map] at this
    have hal := bdE.al
    repeat' (first | refine w_seq ?_ | refine w_seqN ?_ | refine w_blk ?_ | refine w_blkX ?_ | refine w_ops ?_ | ((refine i_nil ?_); refine w_end5 rfl rfl rfl rfl rfl ?_) | ((refine i_cons ?_); first | refine k_len rfl hlA ?_ | refine k_mv rfl ?_))
    refine w_loop (I11t h' 0 h1.length h0.length (tb s) sg A) dn (R11t h' 0 h1.length h0.length (tb s) sg A) ⟨A.length, rfl, Nat.le_refl _, by rw [List.take_length], rfl⟩ (round11t h' h0 0 _ _ _ sg A st.o (by omega)) ?_
    rintro ex E' h5 ⟨rfl, rfl, n, a, hn, htr, rfl⟩
    obtain ⟨P, p1, p2, -⟩ := IsInts.part (l := 0) (u := n) (Ab.Own.ids st.o) (by omega) hn
    have p1' : slice1 0 (((n : Nat) : Int)).toNat sg = some P := by rw [Int.toNat_natCast]; exact p1
    have p2' : IsInts h5 P (trimZ A) := by rw [← htr]; simpa using p2
    have htl : (trimZ A).length ≤ 64 := by rw [← htr, List.length_take]; omega
    have hf : Fits ⟨C, trimZ A, L⟩ := ⟨by have := bdE.cl; simp only; omega, by have := bdE.cf; simp only; omega, by simp only; omega, by have := bdE.l; simp only; omega, fun v hv => by have := bdE.v v hv; omega⟩
    have hqr : h0.length < H.length := by omega
    simp only
    by_cases hg : VG ⟨C, trimZ A, L⟩
    · by_cases hfm : fmtG ⟨C, trimZ A, L⟩ = s
      · have hd : (!decide (fmtG ⟨C, trimZ A, L⟩ = s)) = false := by simp [hfm]
        rw [if_pos ⟨hg, hfm⟩]
        repeat' (first | refine w_seq ?_ | refine w_seqN ?_ | refine w_blkX ?_ | refine w_skip ?_ | refine w_ret ?_ | refine w_ops ?_ | ((refine i_cond ?_); refine w_condF rfl ?_) | ((refine i_nil ?_); first | refine w_end2 rfl rfl ?_ | refine w_end3 rfl rfl rfl ?_ | refine w_end5 rfl rfl rfl rfl rfl ?_) | ((refine i_cons ?_); first | refine k_to rfl hlA rfl (by omega) p1' ?_ | (refine k_call rfl (call26 _ P _ p2' (by omega)) ?_; rintro v h6 ⟨e6, t, rfl, i6, n6⟩; have s6 := st.ext e6; have w6 := s6.c.wr.2.1 t; have k6 := (s6.code i6 (fun j hj => n6 j (Nat.lt_of_lt_of_le hj st.len))).set ps.q1 (.cells [X, t, .int .i64 L] true 0); have c7 := s6.c.wr.2.2.2 X t (.int .i64 L); have r7 := (pt.cr s6).set_ne pt.r1 (.cells [X, t, .int .i64 L] true 0); have x7 := s6.e.set ps.q0 (.cells [X, t, .int .i64 L] true 0)) | refine k_fldA rfl ?_ | refine k_st2 rfl rfl w6 ?_ | refine k_ld3 rfl c7 ?_ | (refine k_call rfl (call8 _ X t ⟨C, trimZ A, L⟩ hf k6.code hg) ?_; rintro v h8 ⟨e8, rfl⟩; have c8 := c7.ext e8; have r8 := r7.ext e8; have k8 := k6.ext e8; have x8 := x7.trans e8) | refine k_sneq rfl rfl hd ?_ | refine k_ld3 rfl c8 ?_ | (refine k_st3 rfl rfl r8 ?_; intro h9 q9 c9) | refine k_want rfl ?_ | refine k_mv rfl ?_ | refine k_pickF rfl rfl ?_ | refine k_neqF rfl rfl (by omega) ?_ | refine k_ok rfl rfl ?_))
        exact ⟨.inr rfl, oK_cellt rfl c9.read rfl ⟨by rw [q9]; exact x8.set (Nat.le_refl _) _, X, t, rfl, by rw [q9]; exact (k8.set hqr _).code, hf⟩⟩
      · have hd : (!decide (fmtG ⟨C, trimZ A, L⟩ = s)) = true := by simp [hfm]
        rw [if_neg (fun h => hfm h.2)]
        repeat' (first | refine w_seq ?_ | refine w_seqN ?_ | refine w_seqR ?_ | refine w_blkX ?_ | refine w_ret ?_ | refine w_ops ?_ | ((refine i_cond ?_); refine w_condT rfl ?_) | ((refine i_nil ?_); first | refine w_end2 rfl rfl ?_ | refine w_end3 rfl rfl rfl ?_ | refine w_end5 rfl rfl rfl rfl rfl ?_) | ((refine i_cons ?_); first | refine k_to rfl hlA rfl (by omega) p1' ?_ | (refine k_call rfl (call26 _ P _ p2' (by omega)) ?_; rintro v h6 ⟨e6, t, rfl, i6, n6⟩; have s6 := st.ext e6; have w6 := s6.c.wr.2.1 t; have k6 := (s6.code i6 (fun j hj => n6 j (Nat.lt_of_lt_of_le hj st.len))).set ps.q1 (.cells [X, t, .int .i64 L] true 0); have c7 := s6.c.wr.2.2.2 X t (.int .i64 L); have r7 := (pt.cr s6).set_ne pt.r1 (.cells [X, t, .int .i64 L] true 0); have x7 := s6.e.set ps.q0 (.cells [X, t, .int .i64 L] true 0)) | refine k_fldA rfl ?_ | refine k_st2 rfl rfl w6 ?_ | refine k_ld3 rfl c7 ?_ | (refine k_call rfl (call8 _ X t ⟨C, trimZ A, L⟩ hf k6.code hg) ?_; rintro v h8 ⟨e8, rfl⟩; have r8 := r7.ext e8; have x8 := x7.trans e8) | refine k_sneq rfl rfl hd ?_ | refine k_bld rfl rfl ?_ | (refine k_st3 rfl rfl r8 ?_; intro h9 q9 c9) | refine k_want rfl ?_ | refine k_mv rfl ?_ | refine k_pickF rfl rfl ?_ | refine k_neqF rfl rfl (by omega) ?_ | refine k_ok rfl rfl ?_))
        exact ⟨.inr rfl, oK_cellt rfl c9.read rfl ⟨by rw [q9]; exact x8.set (Nat.le_refl _) _, rfl⟩⟩
    · rw [if_neg (fun h => hg h.1)]
      repeat' (first | refine w_seq ?_ | refine w_seqN ?_ | refine w_seqR ?_ | refine w_blkX ?_ | refine w_ret ?_ | refine w_ops ?_ | ((refine i_cond ?_); refine w_condT rfl ?_) | ((refine i_nil ?_); first | refine w_end2 rfl rfl ?_ | refine w_end3 rfl rfl rfl ?_ | refine w_end5 rfl rfl rfl rfl rfl ?_) | ((refine i_cons ?_); first | refine k_to rfl hlA rfl (by omega) p1' ?_ | (refine k_call rfl (call26 _ P _ p2' (by omega)) ?_; rintro v h6 ⟨e6, t, rfl, i6, n6⟩; have s6 := st.ext e6; have w6 := s6.c.wr.2.1 t; have k6 := (s6.code i6 (fun j hj => n6 j (Nat.lt_of_lt_of_le hj st.len))).set ps.q1 (.cells [X, t, .int .i64 L] true 0); have c7 := s6.c.wr.2.2.2 X t (.int .i64 L); have r7 := (pt.cr s6).set_ne pt.r1 (.cells [X, t, .int .i64 L] true 0); have x7 := s6.e.set ps.q0 (.cells [X, t, .int .i64 L] true 0)) | refine k_fldA rfl ?_ | refine k_st2 rfl rfl w6 ?_ | refine k_ld3 rfl c7 ?_ | (refine k_call rfl (call8e _ X t ⟨C, trimZ A, L⟩ hf k6.code hg) ?_; rintro v h8 ⟨e8, rfl⟩; have r8 := r7.ext e8; have x8 := x7.trans e8) | refine k_bld rfl rfl ?_ | (refine k_st3 rfl rfl r8 ?_; intro h9 q9 c9) | refine k_skip rfl ?_ | refine k_mv rfl ?_ | refine k_pickT rfl rfl ?_ | refine k_neqT rfl rfl (by omega) ?_ | refine k_ok rfl rfl ?_))
      exact ⟨.inr rfl, oK_cellt rfl c9.read rfl ⟨by rw [q9]; exact x8.set (Nat.le_refl _) _, rfl⟩⟩
end Go.Proofs.YtjmapbmdfbdomaaDoor
