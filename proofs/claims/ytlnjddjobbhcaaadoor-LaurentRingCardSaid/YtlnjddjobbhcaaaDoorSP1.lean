/- The products of the terms, added up in a map: contracts. -/
import Derived.Test.YtlnjddjobbhcaaaDoorPX
namespace Go.Proofs.YtlnjddjobbhcaaaDoor
open Go.Ab
set_option linter.unusedVariables false
set_option linter.unusedSimpArgs false
set_option maxRecDepth 20000
set_option maxHeartbeats 4000000
attribute [local irreducible] wOps wA wSeq wBlk wRound wRoundI wOpsD wOpsS

/-- The entries of a map of sums. -/
abbrev esW (f : Int → Int) (K : List Int) : List (Int × (SV × SV)) := esF (fun k => wdP (f k)) K
/-- While the products are added up in a map. -/
structure Mx (h0 hb h : Heap) (q5 m : Nat) (f : Int → Int) (K : List Int) : Prop where
  e : Ext h0 h
  b5 : Cel1 h q5 (.mapv m)
  mp : h[m]? = some (MBW (esW f K))
  nd : K.Nodup
  z : ∀ e, e ∉ K → f e = 0
  l : h0.length ≤ m
  k : ∀ (j : Nat) (b : Blk), hb[j]? = some b → j ≠ m → h[j]? = some b
theorem Mx.ext {h0 hb h h' : Heap} {q5 m : Nat} {f : Int → Int} {K : List Int} (x : Mx h0 hb h q5 m f K) (he : Ext h h') : Mx h0 hb h' q5 m f K :=
  ⟨x.e.trans he, x.b5.ext he, he.get _ _ x.mp, x.nd, x.z, x.l, fun j b hj hn => he.get _ _ (x.k j b hj hn)⟩
theorem Mx.ne {h0 hb h : Heap} {q5 m : Nat} {f : Int → Int} {K : List Int} (x : Mx h0 hb h q5 m f K) {q : Nat} {a b : SV} (c : Cel h q a b) : q ≠ m := fun e => by
  have h1 := x.mp
  unfold Cel at c
  rw [e, h1] at c
  simp [zIW] at c
  have := congrArg ESz.n c.2
  simp at this
theorem Mx.ne5 {h0 hb h : Heap} {q5 m : Nat} {f : Int → Int} {K : List Int} (x : Mx h0 hb h q5 m f K) : q5 ≠ m := fun e => by
  have h1 := x.mp
  have h2 := x.b5
  unfold Cel1 at h2
  rw [e, h1] at h2
  simp [zIW] at h2
  have := congrArg ESz.n h2.2
  simp at this
theorem Mx.cong {h0 hb h : Heap} {q5 m : Nat} {f g : Int → Int} {K : List Int} (x : Mx h0 hb h q5 m f K) (hg : ∀ e, f e = g e) : Mx h0 hb h q5 m g K := by
  have : f = g := funext hg
  subst this
  exact x
/-- One more key. -/
def addK (K : List Int) (k : Int) : List Int := if k ∈ K then K else K ++ [k]
theorem addK_mem {K : List Int} {k e : Int} : e ∈ addK K k ↔ e ∈ K ∨ e = k := by
  unfold addK
  split
  · rename_i h
    exact ⟨.inl, fun h2 => h2.elim id fun e2 => e2 ▸ h⟩
  · simp
theorem addK_len (K : List Int) (k : Int) : (addK K k).length ≤ K.length + 1 ∧ 0 < (addK K k).length := by
  have : k ∈ addK K k := addK_mem.2 (.inr rfl)
  refine ⟨?_, List.length_pos_of_mem this⟩
  unfold addK
  split <;> simp
theorem addK_nd {K : List Int} (h : K.Nodup) (k : Int) : (addK K k).Nodup := by
  unfold addK
  split
  · exact h
  · rename_i hk
    exact List.nodup_append.2 ⟨h, by simp, fun a ha b hb e => by simp at hb; subst hb; subst e; exact hk ha⟩
theorem call75 (h0 hb h : Heap) (q5 m : Nat) (f : Int → Int) (K : List Int) (x : Mx h0 hb h q5 m f K) (ex w : Int) :
    ∃ r h', Cal FT HKt 75 [.sc (.int .i64 ex), .agg (wd w), .sc (.ptr q5 0)] h r h' ∧ Mx h0 hb h' q5 m (fun y => f y + w * dl y ex) (addK K ex) ∧ ∀ (j : Nat) (b : Blk), h[j]? = some b → j ≠ m → h'[j]? = some b := by
  refine Cal.of (F := a75) rfl rfl rfl ?_
  have hg : (getW (esW f K) ex).getD (.int .u64 0, .int .u64 0) = wdP (f ex) := by
    rw [getW_F]
    split
    · rfl
    · rename_i hn
      rw [x.z ex hn]
      rfl
  have k40 := fun H => call40 H (f ex) w
  have hs : setW (esW f K) ex (wdP (f ex + w)) = esW (fun y => f y + w * dl y ex) (addK K ex) := by
    have := setW_F (g := fun k => wdP (f k)) (g' := fun k => wdP (f k + w * dl k ex)) x.nd ex (fun e he => by
      show wdP (f e + w * dl e ex) = wdP (f e)
      rw [dl_ne (fun e2 => he e2.symm)]; simp)
    simp only [dl_self, Int.mul_one] at this
    exact this
  simp only [wd_P] at k40 ⊢
  repeat' (first | refine w_seq ?_ | refine w_seqN ?_ | refine w_seqX ?_ | refine w_seqR ?_ | refine w_blk ?_ | refine w_blkN ?_ | refine w_blkX ?_ | refine w_blkR ?_ | refine w_skip ?_ | refine w_ret ?_ | refine w_exit ?_ | refine w_ops ?_ | refine w_opsD ?_ | refine d_one ?_ | refine d_nil ?_ | (refine w_blkY ?_ ?_; rfl) | ((refine i_cond ?_); first | refine w_condT rfl ?_ | refine w_condF rfl ?_) | ((refine i_nil ?_); first | refine d_same ?_ | refine d_ord ?_ | refine d_ext ⟨_, rfl⟩ ?_ | refine d_ext (extA _ _ _) ?_ | refine d_ext (by assumption) ?_ | refine w_end0 ?_ | refine w_end1 rfl ?_ | refine w_end2 rfl rfl ?_ | refine w_end3 rfl rfl rfl ?_ | refine w_end4 rfl rfl rfl rfl ?_ | refine w_end5 rfl rfl rfl rfl rfl ?_ | refine w_end6 rfl rfl rfl rfl rfl rfl ?_ | refine w_end7 rfl rfl rfl rfl rfl rfl rfl ?_ | refine w_end8 rfl rfl rfl rfl rfl rfl rfl rfl ?_ | refine w_end9 rfl rfl rfl rfl rfl rfl rfl rfl rfl ?_ | refine w_end10 rfl rfl rfl rfl rfl rfl rfl rfl rfl rfl ?_ | refine w_end11 rfl rfl rfl rfl rfl rfl rfl rfl rfl rfl rfl ?_ | refine w_end12 rfl rfl rfl rfl rfl rfl rfl rfl rfl rfl rfl rfl ?_ | refine w_end13 rfl rfl rfl rfl rfl rfl rfl rfl rfl rfl rfl rfl rfl ?_ | refine w_end14 rfl rfl rfl rfl rfl rfl rfl rfl rfl rfl rfl rfl rfl rfl ?_ | refine w_end15 rfl rfl rfl rfl rfl rfl rfl rfl rfl rfl rfl rfl rfl rfl rfl ?_ | refine w_end16 rfl rfl rfl rfl rfl rfl rfl rfl rfl rfl rfl rfl rfl rfl rfl rfl ?_) | ((refine i_cons ?_); first | (refine k_boxC rfl ?_; intro h1 e1 c1; have x1 := x.ext e1) | refine k_ldb rfl x1.b5.at rfl ?_ | refine k_mpLW rfl x1.mp rfl hg ?_ | refine k_ldC rfl c1 ?_ | (refine k_call rfl (k40 _) ?_; rintro r h2 ⟨e2, rfl⟩; have x2 := x1.ext e2) | (refine k_mpUW rfl x2.mp rfl rfl ?_) | refine k_skip rfl ?_ | refine k_skipU rfl ?_ | refine k_want rfl ?_ | refine k_mv rfl ?_ | refine k_pickT rfl rfl ?_ | refine k_pickF rfl rfl ?_ | refine k_notT rfl ?_ | refine k_notF rfl ?_ | refine k_add rfl rfl (by omega) ?_ | refine k_sub rfl rfl (by omega) ?_ | refine k_mul rfl rfl (by omega) ?_ | refine k_neg rfl (by omega) ?_ | refine k_quo rfl rfl (by omega) ?_ | refine k_rem rfl rfl (by omega) ?_ | refine k_conv rfl (by omega) ?_ | refine k_max rfl rfl ?_ | refine k_min rfl rfl ?_ | refine k_lssT rfl rfl (by omega) ?_ | refine k_lssF rfl rfl (by omega) ?_ | refine k_lss rfl rfl (fun hc => ?_) (fun hc => ?_) | refine k_leqT rfl rfl (by omega) ?_ | refine k_leqF rfl rfl (by omega) ?_ | refine k_leq rfl rfl (fun hc => ?_) (fun hc => ?_) | refine k_gtrT rfl rfl (by omega) ?_ | refine k_gtrF rfl rfl (by omega) ?_ | refine k_gtr rfl rfl (fun hc => ?_) (fun hc => ?_) | refine k_geqT rfl rfl (by omega) ?_ | refine k_geqF rfl rfl (by omega) ?_ | refine k_geq rfl rfl (fun hc => ?_) (fun hc => ?_) | refine k_eqlT rfl rfl (by omega) ?_ | refine k_eqlF rfl rfl (by omega) ?_ | refine k_eql rfl rfl (fun hc => ?_) (fun hc => ?_) | refine k_neqT rfl rfl (by omega) ?_ | refine k_neqF rfl rfl (by omega) ?_ | refine k_neq rfl rfl (fun hc => ?_) (fun hc => ?_) | refine k_len rfl rfl ?_ | refine k_ok rfl rfl ?_))
  refine w_nilK ?_
  have hm : m < h2.length := (List.getElem?_eq_some_iff.1 x2.mp).1
  refine ⟨.inl rfl, ⟨x2.e.set x2.l _, ?_, ?_, addK_nd x.nd ex, fun e he => ?_, x.l, fun j b hj hn => ?_⟩, fun j b hj hn => ?_⟩
  · unfold Cel1
    rw [List.getElem?_set_ne (Ne.symm x2.ne5)]
    exact x2.b5
  · rw [List.getElem?_set_self hm, ← hs]
  · have h1 : e ≠ ex := fun e2 => he (addK_mem.2 (.inr e2))
    show f e + w * dl e ex = 0
    rw [dl_ne (fun e2 => h1 e2.symm), x.z e (fun e2 => he (addK_mem.2 (.inl e2)))]; simp
  · rw [List.getElem?_set_ne (Ne.symm hn)]
    exact x2.k j b hj hn
  · rw [List.getElem?_set_ne (Ne.symm hn)]
    exact (e1.trans e2).get _ _ hj
/-- The keys so far. -/
structure Kx (K : List Int) (lo : Int) (n c : Nat) : Prop where
  len : K.length ≤ c
  ne : 0 < c → K ≠ []
  rg : ∀ e ∈ K, lo ≤ e ∧ e < lo + n
theorem Kx.add {K : List Int} {lo : Int} {n c : Nat} (x : Kx K lo n c) {k : Int} (h : lo ≤ k ∧ k < lo + n) : Kx (addK K k) lo n (c + 1) := by
  obtain ⟨a, b⟩ := addK_len K k
  have := x.len
  refine ⟨by omega, fun _ e => by rw [e] at b; simp at b, fun e he => ?_⟩
  rcases addK_mem.1 he with he | rfl
  · exact x.rg e he
  · exact h
def J43i (h0 hb : Heap) (q5 m q4 qt : Nat) (lo : Int) (n : Nat) (bb : Bool) (sp sq : SV) (p q : List Tm) (i : Nat) (t : Tm) (E : Env) (h : Heap) : Prop := ∃ (j : Nat) (K : List Int), j ≤ q.length ∧ Mx h0 hb h q5 m (fun e => mc (p.take i) q e + mc [t] (q.take j) e) K ∧ Kx K lo n (i * q.length + j) ∧ Cel h q4 (.bool bb) sq ∧ Cel h qt (.int .i64 t.1) (.int .i64 t.2) ∧
  E.keep [2, 4, 7, 11, 12, 13, 18, 19, 20] = [(2, some (.sc (.fn 75 [(q5, 0)]))), (4, some (.sc (.ptr q4 0))), (7, some (.sc (.ptr qt 0))), (11, some (.sc sp)), (12, some (.sc (.int .i64 (p.length : Nat)))), (13, some (.sc (.int .i64 (i : Nat)))), (18, some (.sc sq)), (19, some (.sc (.int .i64 (q.length : Nat)))), (20, some (.sc (.int .i64 (j : Nat))))]
def S43i (h0 hb : Heap) (q5 m q4 : Nat) (lo : Int) (n : Nat) (bb : Bool) (sp sq : SV) (p q : List Tm) (i : Nat) (t : Tm) (ex : Ex) (E : Env) (h : Heap) : Prop := ex = .ex 2 ∧ ∃ K, Mx h0 hb h q5 m (fun e => mc (p.take i) q e + mc [t] q e) K ∧ Kx K lo n (i * q.length + q.length) ∧ Cel h q4 (.bool bb) sq ∧ ∃ a b c d e,
  E = [(2, some (.sc (.fn 75 [(q5, 0)]))), (4, some (.sc (.ptr q4 0))), (7, a), (11, some (.sc sp)), (12, some (.sc (.int .i64 (p.length : Nat)))), (13, some (.sc (.int .i64 (i : Nat)))), (18, b), (19, c), (20, d), (21, e)]
theorem sround43i (h0 hb : Heap) (q5 m q4 qt : Nat) (lo : Int) (n : Nat) (bb : Bool) (sp sq : SV) (p q : List Tm) (i : Nat) (t : Tm) (hq : IsD h0 sq (tms q)) (fq : Tfit q) (ht : t.2.natAbs ≤ cM ∧ t.1.natAbs ≤ 4194304) (hrng : ∀ u ∈ q, lo ≤ t.1 + u.1 ∧ t.1 + u.1 < lo + n) (E : Env) (h : Heap) (hI : J43i h0 hb q5 m q4 qt lo n bb sp sq p q i t E h) :
    wA FT HKt b43L1 (E.keep [2, 4, 7, 11, 12, 13, 18, 19, 20]) h (wRound (J43i h0 hb q5 m q4 qt lo n bb sp sq p q i t) (cK [2, 4, 7, 11, 12, 13, 18, 19, 20] q.length 20) (cK [2, 4, 7, 11, 12, 13, 18, 19, 20] q.length 20 E h) (S43i h0 hb q5 m q4 lo n bb sp sq p q i t)) := by
  obtain ⟨j, K, hj, x, kx, c4, ct, hE⟩ := hI
  have hm : cK [2, 4, 7, 11, 12, 13, 18, 19, 20] q.length 20 E h = q.length - j := by unfold cK; rw [hE]; rfl
  rw [hm, hE]
  have hql := fq.len
  by_cases hlt : j < q.length
  · obtain ⟨u, hu⟩ : ∃ u, q[j]? = some u := ⟨_, List.getElem?_eq_getElem hlt⟩
    have hum := List.mem_of_getElem? hu
    have hur := hrng u hum
    have hue := fq.ex u hum
    have huc := fq.cf u hum
    obtain ⟨id, off, cap, e1, r0⟩ := hq.at (i := j) (p := tmP u) (by simp [hu])
    rw [tms_len] at e1
    subst e1
    have r1 := readN_ext x.e r0
    simp only [cM] at ht huc
    have k41 := fun H => call41 H t.2 u.2 (by omega) (by omega)
    have tk : q.take (j + 1) = q.take j ++ [u] := by rw [List.take_add_one, hu]; rfl
    have k75 := fun H (x : Mx h0 hb H q5 m (fun e => mc (p.take i) q e + mc [t] (q.take j) e) K) => call75 h0 hb H q5 m _ K x (t.1 + u.1) (t.2 * u.2)
    repeat' (first | refine w_seq ?_ | refine w_seqN ?_ | refine w_seqX ?_ | refine w_seqR ?_ | refine w_blk ?_ | refine w_blkN ?_ | refine w_blkX ?_ | refine w_blkR ?_ | refine w_skip ?_ | refine w_ret ?_ | refine w_exit ?_ | refine w_ops ?_ | refine w_opsD ?_ | refine d_one ?_ | refine d_nil ?_ | (refine w_blkY ?_ ?_; rfl) | ((refine i_cond ?_); first | refine w_condT rfl ?_ | refine w_condF rfl ?_) | ((refine i_nil ?_); first | refine d_same ?_ | refine d_ord ?_ | refine d_ext ⟨_, rfl⟩ ?_ | refine d_ext (extA _ _ _) ?_ | refine d_ext (by assumption) ?_ | refine w_end0 ?_ | refine w_end1 rfl ?_ | refine w_end2 rfl rfl ?_ | refine w_end3 rfl rfl rfl ?_ | refine w_end4 rfl rfl rfl rfl ?_ | refine w_end5 rfl rfl rfl rfl rfl ?_ | refine w_end6 rfl rfl rfl rfl rfl rfl ?_ | refine w_end7 rfl rfl rfl rfl rfl rfl rfl ?_ | refine w_end8 rfl rfl rfl rfl rfl rfl rfl rfl ?_ | refine w_end9 rfl rfl rfl rfl rfl rfl rfl rfl rfl ?_ | refine w_end10 rfl rfl rfl rfl rfl rfl rfl rfl rfl rfl ?_ | refine w_end11 rfl rfl rfl rfl rfl rfl rfl rfl rfl rfl rfl ?_ | refine w_end12 rfl rfl rfl rfl rfl rfl rfl rfl rfl rfl rfl rfl ?_ | refine w_end13 rfl rfl rfl rfl rfl rfl rfl rfl rfl rfl rfl rfl rfl ?_ | refine w_end14 rfl rfl rfl rfl rfl rfl rfl rfl rfl rfl rfl rfl rfl rfl ?_ | refine w_end15 rfl rfl rfl rfl rfl rfl rfl rfl rfl rfl rfl rfl rfl rfl rfl ?_ | refine w_end16 rfl rfl rfl rfl rfl rfl rfl rfl rfl rfl rfl rfl rfl rfl rfl rfl ?_) | ((refine i_cons ?_); first | refine k_idxA (esz := 2) rfl rfl (by omega) ?_ | refine k_ldD rfl r1 ?_ | (refine k_newst rfl ?_; intro h2 e2 c2; have dt := ct.ext e2; have x2 := x.ext e2) | refine k_ldC0 rfl dt ?_ | refine k_ldC0 rfl c2 ?_ | refine k_ldC1 rfl dt ?_ | refine k_ldC1 rfl c2 ?_ | (refine k_call rfl (k41 _) ?_; rintro r h3 ⟨e3, rfl⟩; have x3 := x2.ext e3) | (refine k_callvC rfl rfl (k75 h3 x3) ?_; rintro r h4 ⟨x4, f4⟩) | refine k_skip rfl ?_ | refine k_skipU rfl ?_ | refine k_want rfl ?_ | refine k_mv rfl ?_ | refine k_pickT rfl rfl ?_ | refine k_pickF rfl rfl ?_ | refine k_notT rfl ?_ | refine k_notF rfl ?_ | refine k_add rfl rfl (by omega) ?_ | refine k_sub rfl rfl (by omega) ?_ | refine k_mul rfl rfl (by omega) ?_ | refine k_neg rfl (by omega) ?_ | refine k_quo rfl rfl (by omega) ?_ | refine k_rem rfl rfl (by omega) ?_ | refine k_conv rfl (by omega) ?_ | refine k_max rfl rfl ?_ | refine k_min rfl rfl ?_ | refine k_lssT rfl rfl (by omega) ?_ | refine k_lssF rfl rfl (by omega) ?_ | refine k_lss rfl rfl (fun hc => ?_) (fun hc => ?_) | refine k_leqT rfl rfl (by omega) ?_ | refine k_leqF rfl rfl (by omega) ?_ | refine k_leq rfl rfl (fun hc => ?_) (fun hc => ?_) | refine k_gtrT rfl rfl (by omega) ?_ | refine k_gtrF rfl rfl (by omega) ?_ | refine k_gtr rfl rfl (fun hc => ?_) (fun hc => ?_) | refine k_geqT rfl rfl (by omega) ?_ | refine k_geqF rfl rfl (by omega) ?_ | refine k_geq rfl rfl (fun hc => ?_) (fun hc => ?_) | refine k_eqlT rfl rfl (by omega) ?_ | refine k_eqlF rfl rfl (by omega) ?_ | refine k_eql rfl rfl (fun hc => ?_) (fun hc => ?_) | refine k_neqT rfl rfl (by omega) ?_ | refine k_neqF rfl rfl (by omega) ?_ | refine k_neq rfl rfl (fun hc => ?_) (fun hc => ?_) | refine k_len rfl rfl ?_ | refine k_ok rfl rfl ?_))
    have d4 := c4.ext (e2.trans e3)
    have dt3 := dt.ext e3
    refine w_roundN ⟨j + 1, _, by omega, x4.cong fun e => ?_, kx.add hur, f4 _ _ d4 (x3.ne d4), f4 _ _ dt3 (x3.ne dt3), rfl⟩ (by simp [cK, Env.keep, Env.get]; omega)
    rw [tk, mc_snoc]; omega
  · have : j = q.length := by omega
    subst this
    rw [List.take_length] at x
    repeat' (first | refine w_seq ?_ | refine w_seqN ?_ | refine w_seqX ?_ | refine w_seqR ?_ | refine w_blk ?_ | refine w_blkN ?_ | refine w_blkX ?_ | refine w_blkR ?_ | refine w_skip ?_ | refine w_ret ?_ | refine w_exit ?_ | refine w_ops ?_ | refine w_opsD ?_ | refine d_one ?_ | refine d_nil ?_ | (refine w_blkY ?_ ?_; rfl) | ((refine i_cond ?_); first | refine w_condT rfl ?_ | refine w_condF rfl ?_) | ((refine i_nil ?_); first | refine d_same ?_ | refine d_ord ?_ | refine d_ext ⟨_, rfl⟩ ?_ | refine d_ext (extA _ _ _) ?_ | refine d_ext (by assumption) ?_ | refine w_end0 ?_ | refine w_end1 rfl ?_ | refine w_end2 rfl rfl ?_ | refine w_end3 rfl rfl rfl ?_ | refine w_end4 rfl rfl rfl rfl ?_ | refine w_end5 rfl rfl rfl rfl rfl ?_ | refine w_end6 rfl rfl rfl rfl rfl rfl ?_ | refine w_end7 rfl rfl rfl rfl rfl rfl rfl ?_ | refine w_end8 rfl rfl rfl rfl rfl rfl rfl rfl ?_ | refine w_end9 rfl rfl rfl rfl rfl rfl rfl rfl rfl ?_ | refine w_end10 rfl rfl rfl rfl rfl rfl rfl rfl rfl rfl ?_ | refine w_end11 rfl rfl rfl rfl rfl rfl rfl rfl rfl rfl rfl ?_ | refine w_end12 rfl rfl rfl rfl rfl rfl rfl rfl rfl rfl rfl rfl ?_ | refine w_end13 rfl rfl rfl rfl rfl rfl rfl rfl rfl rfl rfl rfl rfl ?_ | refine w_end14 rfl rfl rfl rfl rfl rfl rfl rfl rfl rfl rfl rfl rfl rfl ?_ | refine w_end15 rfl rfl rfl rfl rfl rfl rfl rfl rfl rfl rfl rfl rfl rfl rfl ?_ | refine w_end16 rfl rfl rfl rfl rfl rfl rfl rfl rfl rfl rfl rfl rfl rfl rfl rfl ?_) | ((refine i_cons ?_); first | refine k_skip rfl ?_ | refine k_skipU rfl ?_ | refine k_want rfl ?_ | refine k_mv rfl ?_ | refine k_pickT rfl rfl ?_ | refine k_pickF rfl rfl ?_ | refine k_notT rfl ?_ | refine k_notF rfl ?_ | refine k_add rfl rfl (by omega) ?_ | refine k_sub rfl rfl (by omega) ?_ | refine k_mul rfl rfl (by omega) ?_ | refine k_neg rfl (by omega) ?_ | refine k_quo rfl rfl (by omega) ?_ | refine k_rem rfl rfl (by omega) ?_ | refine k_conv rfl (by omega) ?_ | refine k_max rfl rfl ?_ | refine k_min rfl rfl ?_ | refine k_lssT rfl rfl (by omega) ?_ | refine k_lssF rfl rfl (by omega) ?_ | refine k_lss rfl rfl (fun hc => ?_) (fun hc => ?_) | refine k_leqT rfl rfl (by omega) ?_ | refine k_leqF rfl rfl (by omega) ?_ | refine k_leq rfl rfl (fun hc => ?_) (fun hc => ?_) | refine k_gtrT rfl rfl (by omega) ?_ | refine k_gtrF rfl rfl (by omega) ?_ | refine k_gtr rfl rfl (fun hc => ?_) (fun hc => ?_) | refine k_geqT rfl rfl (by omega) ?_ | refine k_geqF rfl rfl (by omega) ?_ | refine k_geq rfl rfl (fun hc => ?_) (fun hc => ?_) | refine k_eqlT rfl rfl (by omega) ?_ | refine k_eqlF rfl rfl (by omega) ?_ | refine k_eql rfl rfl (fun hc => ?_) (fun hc => ?_) | refine k_neqT rfl rfl (by omega) ?_ | refine k_neqF rfl rfl (by omega) ?_ | refine k_neq rfl rfl (fun hc => ?_) (fun hc => ?_) | refine k_len rfl rfl ?_ | refine k_ok rfl rfl ?_))
    exact w_roundX ⟨rfl, K, x, kx, c4, _, _, _, _, _, rfl⟩
def J43 (h0 hb : Heap) (q5 m q4 : Nat) (lo : Int) (n : Nat) (bb : Bool) (sp sq : SV) (p q : List Tm) (E : Env) (h : Heap) : Prop := ∃ (i : Nat) (K : List Int), i ≤ p.length ∧ Mx h0 hb h q5 m (fun e => mc (p.take i) q e) K ∧ Kx K lo n (i * q.length) ∧ Cel h q4 (.bool bb) sq ∧
  E.keep [2, 4, 11, 12, 13] = [(2, some (.sc (.fn 75 [(q5, 0)]))), (4, some (.sc (.ptr q4 0))), (11, some (.sc sp)), (12, some (.sc (.int .i64 (p.length : Nat)))), (13, some (.sc (.int .i64 (i : Nat))))]
def S43 (h0 hb : Heap) (q5 m : Nat) (lo : Int) (n : Nat) (p q : List Tm) (ex : Ex) (E : Env) (h : Heap) : Prop := ex = .ex 0 ∧ ∃ K, Mx h0 hb h q5 m (fun e => mc p q e) K ∧ Kx K lo n (p.length * q.length)
theorem sround43 (h0 hb : Heap) (q5 m q4 : Nat) (lo : Int) (n : Nat) (bb : Bool) (sp sq : SV) (p q : List Tm) (hp : IsD h0 sp (tms p)) (hq : IsD h0 sq (tms q)) (fp : Tfit p) (fq : Tfit q) (hrng : ∀ t ∈ p, ∀ u ∈ q, lo ≤ t.1 + u.1 ∧ t.1 + u.1 < lo + n) (E : Env) (h : Heap) (hI : J43 h0 hb q5 m q4 lo n bb sp sq p q E h) :
    wA FT HKt b43L0 (E.keep [2, 4, 11, 12, 13]) h (wRound (J43 h0 hb q5 m q4 lo n bb sp sq p q) (cK [2, 4, 11, 12, 13] p.length 13) (cK [2, 4, 11, 12, 13] p.length 13 E h) (S43 h0 hb q5 m lo n p q)) := by
  obtain ⟨i, K, hi, x, kx, c4, hE⟩ := hI
  have hm : cK [2, 4, 11, 12, 13] p.length 13 E h = p.length - i := by unfold cK; rw [hE]; rfl
  rw [hm, hE]
  have hpl := fp.len
  have lq := hq.len
  rw [tms_len] at lq
  by_cases hlt : i < p.length
  · obtain ⟨t, ht⟩ : ∃ t, p[i]? = some t := ⟨_, List.getElem?_eq_getElem hlt⟩
    have htm := List.mem_of_getElem? ht
    obtain ⟨id, off, cap, e1, r0⟩ := hp.at (i := i) (p := tmP t) (by simp [ht])
    rw [tms_len] at e1
    subst e1
    have r1 := readN_ext x.e r0
    repeat' (first | refine w_seq ?_ | refine w_seqN ?_ | refine w_seqX ?_ | refine w_seqR ?_ | refine w_blk ?_ | refine w_blkN ?_ | refine w_blkX ?_ | refine w_blkR ?_ | refine w_skip ?_ | refine w_ret ?_ | refine w_exit ?_ | refine w_ops ?_ | refine w_opsD ?_ | refine d_one ?_ | refine d_nil ?_ | (refine w_blkY ?_ ?_; rfl) | ((refine i_cond ?_); first | refine w_condT rfl ?_ | refine w_condF rfl ?_) | ((refine i_nil ?_); first | refine d_same ?_ | refine d_ord ?_ | refine d_ext ⟨_, rfl⟩ ?_ | refine d_ext (extA _ _ _) ?_ | refine d_ext (by assumption) ?_ | refine w_end0 ?_ | refine w_end1 rfl ?_ | refine w_end2 rfl rfl ?_ | refine w_end3 rfl rfl rfl ?_ | refine w_end4 rfl rfl rfl rfl ?_ | refine w_end5 rfl rfl rfl rfl rfl ?_ | refine w_end6 rfl rfl rfl rfl rfl rfl ?_ | refine w_end7 rfl rfl rfl rfl rfl rfl rfl ?_ | refine w_end8 rfl rfl rfl rfl rfl rfl rfl rfl ?_ | refine w_end9 rfl rfl rfl rfl rfl rfl rfl rfl rfl ?_ | refine w_end10 rfl rfl rfl rfl rfl rfl rfl rfl rfl rfl ?_ | refine w_end11 rfl rfl rfl rfl rfl rfl rfl rfl rfl rfl rfl ?_ | refine w_end12 rfl rfl rfl rfl rfl rfl rfl rfl rfl rfl rfl rfl ?_ | refine w_end13 rfl rfl rfl rfl rfl rfl rfl rfl rfl rfl rfl rfl rfl ?_ | refine w_end14 rfl rfl rfl rfl rfl rfl rfl rfl rfl rfl rfl rfl rfl rfl ?_ | refine w_end15 rfl rfl rfl rfl rfl rfl rfl rfl rfl rfl rfl rfl rfl rfl rfl ?_ | refine w_end16 rfl rfl rfl rfl rfl rfl rfl rfl rfl rfl rfl rfl rfl rfl rfl rfl ?_) | ((refine i_cons ?_); first | refine k_idxA (esz := 2) rfl rfl (by omega) ?_ | refine k_ldD rfl r1 ?_ | (refine k_newst rfl ?_; intro h2 e2 c2; have d4 := c4.ext e2; have x2 := x.ext e2) | refine k_ldC1 rfl d4 ?_ | refine k_len rfl lq ?_ | refine k_skip rfl ?_ | refine k_skipU rfl ?_ | refine k_want rfl ?_ | refine k_mv rfl ?_ | refine k_pickT rfl rfl ?_ | refine k_pickF rfl rfl ?_ | refine k_notT rfl ?_ | refine k_notF rfl ?_ | refine k_add rfl rfl (by omega) ?_ | refine k_sub rfl rfl (by omega) ?_ | refine k_mul rfl rfl (by omega) ?_ | refine k_neg rfl (by omega) ?_ | refine k_quo rfl rfl (by omega) ?_ | refine k_rem rfl rfl (by omega) ?_ | refine k_conv rfl (by omega) ?_ | refine k_max rfl rfl ?_ | refine k_min rfl rfl ?_ | refine k_lssT rfl rfl (by omega) ?_ | refine k_lssF rfl rfl (by omega) ?_ | refine k_lss rfl rfl (fun hc => ?_) (fun hc => ?_) | refine k_leqT rfl rfl (by omega) ?_ | refine k_leqF rfl rfl (by omega) ?_ | refine k_leq rfl rfl (fun hc => ?_) (fun hc => ?_) | refine k_gtrT rfl rfl (by omega) ?_ | refine k_gtrF rfl rfl (by omega) ?_ | refine k_gtr rfl rfl (fun hc => ?_) (fun hc => ?_) | refine k_geqT rfl rfl (by omega) ?_ | refine k_geqF rfl rfl (by omega) ?_ | refine k_geq rfl rfl (fun hc => ?_) (fun hc => ?_) | refine k_eqlT rfl rfl (by omega) ?_ | refine k_eqlF rfl rfl (by omega) ?_ | refine k_eql rfl rfl (fun hc => ?_) (fun hc => ?_) | refine k_neqT rfl rfl (by omega) ?_ | refine k_neqF rfl rfl (by omega) ?_ | refine k_neq rfl rfl (fun hc => ?_) (fun hc => ?_) | refine k_len rfl rfl ?_ | refine k_ok rfl rfl ?_))
    have x2' : Mx h0 hb h2 q5 m (fun e => mc (p.take i) q e + mc [t] (q.take 0) e) K := x2.cong fun e => by rw [List.take_zero, mc_nilr]; omega
    refine w_loop (J43i h0 hb q5 m q4 h.length lo n bb (.slc id off p.length cap) sq p q i t) (cK [2, 4, 7, 11, 12, 13, 18, 19, 20] q.length 20) (S43i h0 hb q5 m q4 lo n bb (.slc id off p.length cap) sq p q i t) ⟨0, K, Nat.zero_le _, x2', kx, d4, c2, rfl⟩ (sround43i h0 hb q5 m q4 h.length lo n bb (.slc id off p.length cap) sq p q i t hq fq ⟨fp.cf t htm, fp.ex t htm⟩ (hrng t htm)) ?_
    rintro ex E' h3 ⟨rfl, K3, x3, kx3, c3, a, b, c, d, e, rfl⟩
    repeat' (first | refine w_seq ?_ | refine w_seqN ?_ | refine w_seqX ?_ | refine w_seqR ?_ | refine w_blk ?_ | refine w_blkN ?_ | refine w_blkX ?_ | refine w_blkR ?_ | refine w_skip ?_ | refine w_ret ?_ | refine w_exit ?_ | refine w_ops ?_ | refine w_opsD ?_ | refine d_one ?_ | refine d_nil ?_ | (refine w_blkY ?_ ?_; rfl) | ((refine i_cond ?_); first | refine w_condT rfl ?_ | refine w_condF rfl ?_) | ((refine i_nil ?_); first | refine d_same ?_ | refine d_ord ?_ | refine d_ext ⟨_, rfl⟩ ?_ | refine d_ext (extA _ _ _) ?_ | refine d_ext (by assumption) ?_ | refine w_end0 ?_ | refine w_end1 rfl ?_ | refine w_end2 rfl rfl ?_ | refine w_end3 rfl rfl rfl ?_ | refine w_end4 rfl rfl rfl rfl ?_ | refine w_end5 rfl rfl rfl rfl rfl ?_ | refine w_end6 rfl rfl rfl rfl rfl rfl ?_ | refine w_end7 rfl rfl rfl rfl rfl rfl rfl ?_ | refine w_end8 rfl rfl rfl rfl rfl rfl rfl rfl ?_ | refine w_end9 rfl rfl rfl rfl rfl rfl rfl rfl rfl ?_ | refine w_end10 rfl rfl rfl rfl rfl rfl rfl rfl rfl rfl ?_ | refine w_end11 rfl rfl rfl rfl rfl rfl rfl rfl rfl rfl rfl ?_ | refine w_end12 rfl rfl rfl rfl rfl rfl rfl rfl rfl rfl rfl rfl ?_ | refine w_end13 rfl rfl rfl rfl rfl rfl rfl rfl rfl rfl rfl rfl rfl ?_ | refine w_end14 rfl rfl rfl rfl rfl rfl rfl rfl rfl rfl rfl rfl rfl rfl ?_ | refine w_end15 rfl rfl rfl rfl rfl rfl rfl rfl rfl rfl rfl rfl rfl rfl rfl ?_ | refine w_end16 rfl rfl rfl rfl rfl rfl rfl rfl rfl rfl rfl rfl rfl rfl rfl rfl ?_) | ((refine i_cons ?_); first | refine k_skip rfl ?_ | refine k_skipU rfl ?_ | refine k_want rfl ?_ | refine k_mv rfl ?_ | refine k_pickT rfl rfl ?_ | refine k_pickF rfl rfl ?_ | refine k_notT rfl ?_ | refine k_notF rfl ?_ | refine k_add rfl rfl (by omega) ?_ | refine k_sub rfl rfl (by omega) ?_ | refine k_mul rfl rfl (by omega) ?_ | refine k_neg rfl (by omega) ?_ | refine k_quo rfl rfl (by omega) ?_ | refine k_rem rfl rfl (by omega) ?_ | refine k_conv rfl (by omega) ?_ | refine k_max rfl rfl ?_ | refine k_min rfl rfl ?_ | refine k_lssT rfl rfl (by omega) ?_ | refine k_lssF rfl rfl (by omega) ?_ | refine k_lss rfl rfl (fun hc => ?_) (fun hc => ?_) | refine k_leqT rfl rfl (by omega) ?_ | refine k_leqF rfl rfl (by omega) ?_ | refine k_leq rfl rfl (fun hc => ?_) (fun hc => ?_) | refine k_gtrT rfl rfl (by omega) ?_ | refine k_gtrF rfl rfl (by omega) ?_ | refine k_gtr rfl rfl (fun hc => ?_) (fun hc => ?_) | refine k_geqT rfl rfl (by omega) ?_ | refine k_geqF rfl rfl (by omega) ?_ | refine k_geq rfl rfl (fun hc => ?_) (fun hc => ?_) | refine k_eqlT rfl rfl (by omega) ?_ | refine k_eqlF rfl rfl (by omega) ?_ | refine k_eql rfl rfl (fun hc => ?_) (fun hc => ?_) | refine k_neqT rfl rfl (by omega) ?_ | refine k_neqF rfl rfl (by omega) ?_ | refine k_neq rfl rfl (fun hc => ?_) (fun hc => ?_) | refine k_len rfl rfl ?_ | refine k_ok rfl rfl ?_))
    have tk : p.take (i + 1) = p.take i ++ [t] := by rw [List.take_add_one, ht]; rfl
    refine w_roundN ⟨i + 1, K3, by omega, x3.cong fun e => by rw [tk, mc_app], ?_, c3, rfl⟩ (by simp [cK, Env.keep, Env.get]; omega)
    rw [Nat.succ_mul]
    exact kx3
  · have : i = p.length := by omega
    subst this
    rw [List.take_length] at x
    repeat' (first | refine w_seq ?_ | refine w_seqN ?_ | refine w_seqX ?_ | refine w_seqR ?_ | refine w_blk ?_ | refine w_blkN ?_ | refine w_blkX ?_ | refine w_blkR ?_ | refine w_skip ?_ | refine w_ret ?_ | refine w_exit ?_ | refine w_ops ?_ | refine w_opsD ?_ | refine d_one ?_ | refine d_nil ?_ | (refine w_blkY ?_ ?_; rfl) | ((refine i_cond ?_); first | refine w_condT rfl ?_ | refine w_condF rfl ?_) | ((refine i_nil ?_); first | refine d_same ?_ | refine d_ord ?_ | refine d_ext ⟨_, rfl⟩ ?_ | refine d_ext (extA _ _ _) ?_ | refine d_ext (by assumption) ?_ | refine w_end0 ?_ | refine w_end1 rfl ?_ | refine w_end2 rfl rfl ?_ | refine w_end3 rfl rfl rfl ?_ | refine w_end4 rfl rfl rfl rfl ?_ | refine w_end5 rfl rfl rfl rfl rfl ?_ | refine w_end6 rfl rfl rfl rfl rfl rfl ?_ | refine w_end7 rfl rfl rfl rfl rfl rfl rfl ?_ | refine w_end8 rfl rfl rfl rfl rfl rfl rfl rfl ?_ | refine w_end9 rfl rfl rfl rfl rfl rfl rfl rfl rfl ?_ | refine w_end10 rfl rfl rfl rfl rfl rfl rfl rfl rfl rfl ?_ | refine w_end11 rfl rfl rfl rfl rfl rfl rfl rfl rfl rfl rfl ?_ | refine w_end12 rfl rfl rfl rfl rfl rfl rfl rfl rfl rfl rfl rfl ?_ | refine w_end13 rfl rfl rfl rfl rfl rfl rfl rfl rfl rfl rfl rfl rfl ?_ | refine w_end14 rfl rfl rfl rfl rfl rfl rfl rfl rfl rfl rfl rfl rfl rfl ?_ | refine w_end15 rfl rfl rfl rfl rfl rfl rfl rfl rfl rfl rfl rfl rfl rfl rfl ?_ | refine w_end16 rfl rfl rfl rfl rfl rfl rfl rfl rfl rfl rfl rfl rfl rfl rfl rfl ?_) | ((refine i_cons ?_); first | refine k_skip rfl ?_ | refine k_skipU rfl ?_ | refine k_want rfl ?_ | refine k_mv rfl ?_ | refine k_pickT rfl rfl ?_ | refine k_pickF rfl rfl ?_ | refine k_notT rfl ?_ | refine k_notF rfl ?_ | refine k_add rfl rfl (by omega) ?_ | refine k_sub rfl rfl (by omega) ?_ | refine k_mul rfl rfl (by omega) ?_ | refine k_neg rfl (by omega) ?_ | refine k_quo rfl rfl (by omega) ?_ | refine k_rem rfl rfl (by omega) ?_ | refine k_conv rfl (by omega) ?_ | refine k_max rfl rfl ?_ | refine k_min rfl rfl ?_ | refine k_lssT rfl rfl (by omega) ?_ | refine k_lssF rfl rfl (by omega) ?_ | refine k_lss rfl rfl (fun hc => ?_) (fun hc => ?_) | refine k_leqT rfl rfl (by omega) ?_ | refine k_leqF rfl rfl (by omega) ?_ | refine k_leq rfl rfl (fun hc => ?_) (fun hc => ?_) | refine k_gtrT rfl rfl (by omega) ?_ | refine k_gtrF rfl rfl (by omega) ?_ | refine k_gtr rfl rfl (fun hc => ?_) (fun hc => ?_) | refine k_geqT rfl rfl (by omega) ?_ | refine k_geqF rfl rfl (by omega) ?_ | refine k_geq rfl rfl (fun hc => ?_) (fun hc => ?_) | refine k_eqlT rfl rfl (by omega) ?_ | refine k_eqlF rfl rfl (by omega) ?_ | refine k_eql rfl rfl (fun hc => ?_) (fun hc => ?_) | refine k_neqT rfl rfl (by omega) ?_ | refine k_neqF rfl rfl (by omega) ?_ | refine k_neq rfl rfl (fun hc => ?_) (fun hc => ?_) | refine k_len rfl rfl ?_ | refine k_ok rfl rfl ?_))
    exact w_roundX ⟨rfl, K, x, kx⟩
theorem scall43 (h0 h : Heap) (q5 m : Nat) (lo : Int) (n : Nat) (ba bb : Bool) (sp sq : SV) (p q : List Tm) (hp : IsD h0 sp (tms p)) (hq : IsD h0 sq (tms q)) (fp : Tfit p) (fq : Tfit q) (hrng : ∀ t ∈ p, ∀ u ∈ q, lo ≤ t.1 + u.1 ∧ t.1 + u.1 < lo + n) (x : Mx h0 h h q5 m (fun _ => 0) []) :
    ∃ r h', Cal FT HKt 43 [.agg [.bool ba, sp], .agg [.bool bb, sq], .sc (.fn 75 [(q5, 0)])] h r h' ∧ ∃ K, Mx h0 h h' q5 m (fun e => mc p q e) K ∧ Kx K lo n (p.length * q.length) := by
  refine Cal.of (F := a43) rfl rfl rfl ?_
  have lp := hp.len
  rw [tms_len] at lp
  have x0 : Mx h0 h h q5 m (fun e => mc (p.take 0) q e) [] := x.cong fun e => rfl
  repeat' (first | refine w_seq ?_ | refine w_seqN ?_ | refine w_seqX ?_ | refine w_seqR ?_ | refine w_blk ?_ | refine w_blkN ?_ | refine w_blkX ?_ | refine w_blkR ?_ | refine w_skip ?_ | refine w_ret ?_ | refine w_exit ?_ | refine w_ops ?_ | refine w_opsD ?_ | refine d_one ?_ | refine d_nil ?_ | (refine w_blkY ?_ ?_; rfl) | ((refine i_cond ?_); first | refine w_condT rfl ?_ | refine w_condF rfl ?_) | ((refine i_nil ?_); first | refine d_same ?_ | refine d_ord ?_ | refine d_ext ⟨_, rfl⟩ ?_ | refine d_ext (extA _ _ _) ?_ | refine d_ext (by assumption) ?_ | refine w_end0 ?_ | refine w_end1 rfl ?_ | refine w_end2 rfl rfl ?_ | refine w_end3 rfl rfl rfl ?_ | refine w_end4 rfl rfl rfl rfl ?_ | refine w_end5 rfl rfl rfl rfl rfl ?_ | refine w_end6 rfl rfl rfl rfl rfl rfl ?_ | refine w_end7 rfl rfl rfl rfl rfl rfl rfl ?_ | refine w_end8 rfl rfl rfl rfl rfl rfl rfl rfl ?_ | refine w_end9 rfl rfl rfl rfl rfl rfl rfl rfl rfl ?_ | refine w_end10 rfl rfl rfl rfl rfl rfl rfl rfl rfl rfl ?_ | refine w_end11 rfl rfl rfl rfl rfl rfl rfl rfl rfl rfl rfl ?_ | refine w_end12 rfl rfl rfl rfl rfl rfl rfl rfl rfl rfl rfl rfl ?_ | refine w_end13 rfl rfl rfl rfl rfl rfl rfl rfl rfl rfl rfl rfl rfl ?_ | refine w_end14 rfl rfl rfl rfl rfl rfl rfl rfl rfl rfl rfl rfl rfl rfl ?_ | refine w_end15 rfl rfl rfl rfl rfl rfl rfl rfl rfl rfl rfl rfl rfl rfl rfl ?_ | refine w_end16 rfl rfl rfl rfl rfl rfl rfl rfl rfl rfl rfl rfl rfl rfl rfl rfl ?_) | ((refine i_cons ?_); first | (have z := e1; refine k_boxC rfl ?_; intro h2 e2 c2; have x2 := x1.ext e2; have d1 := c1.ext e2) | (refine k_boxC rfl ?_; intro h1 e1 c1; have x1 := x0.ext e1) | refine k_ldC1 rfl d1 ?_ | refine k_len rfl lp ?_ | refine k_skip rfl ?_ | refine k_skipU rfl ?_ | refine k_want rfl ?_ | refine k_mv rfl ?_ | refine k_pickT rfl rfl ?_ | refine k_pickF rfl rfl ?_ | refine k_notT rfl ?_ | refine k_notF rfl ?_ | refine k_add rfl rfl (by omega) ?_ | refine k_sub rfl rfl (by omega) ?_ | refine k_mul rfl rfl (by omega) ?_ | refine k_neg rfl (by omega) ?_ | refine k_quo rfl rfl (by omega) ?_ | refine k_rem rfl rfl (by omega) ?_ | refine k_conv rfl (by omega) ?_ | refine k_max rfl rfl ?_ | refine k_min rfl rfl ?_ | refine k_lssT rfl rfl (by omega) ?_ | refine k_lssF rfl rfl (by omega) ?_ | refine k_lss rfl rfl (fun hc => ?_) (fun hc => ?_) | refine k_leqT rfl rfl (by omega) ?_ | refine k_leqF rfl rfl (by omega) ?_ | refine k_leq rfl rfl (fun hc => ?_) (fun hc => ?_) | refine k_gtrT rfl rfl (by omega) ?_ | refine k_gtrF rfl rfl (by omega) ?_ | refine k_gtr rfl rfl (fun hc => ?_) (fun hc => ?_) | refine k_geqT rfl rfl (by omega) ?_ | refine k_geqF rfl rfl (by omega) ?_ | refine k_geq rfl rfl (fun hc => ?_) (fun hc => ?_) | refine k_eqlT rfl rfl (by omega) ?_ | refine k_eqlF rfl rfl (by omega) ?_ | refine k_eql rfl rfl (fun hc => ?_) (fun hc => ?_) | refine k_neqT rfl rfl (by omega) ?_ | refine k_neqF rfl rfl (by omega) ?_ | refine k_neq rfl rfl (fun hc => ?_) (fun hc => ?_) | refine k_len rfl rfl ?_ | refine k_ok rfl rfl ?_))
  refine w_loop (J43 h0 h q5 m h1.length lo n bb sp sq p q) (cK [2, 4, 11, 12, 13] p.length 13) (S43 h0 h q5 m lo n p q) ⟨0, [], Nat.zero_le _, x2, ⟨by simp, fun h => by simp at h, by simp⟩, c2, rfl⟩ (sround43 h0 h q5 m h1.length lo n bb sp sq p q hp hq fp fq hrng) ?_
  rintro ex E' h3 ⟨rfl, K, x3, kx⟩
  repeat' (first | refine w_seq ?_ | refine w_seqN ?_ | refine w_seqX ?_ | refine w_seqR ?_ | refine w_blk ?_ | refine w_blkN ?_ | refine w_blkX ?_ | refine w_blkR ?_ | refine w_skip ?_ | refine w_ret ?_ | refine w_exit ?_ | refine w_ops ?_ | refine w_opsD ?_ | refine d_one ?_ | refine d_nil ?_ | (refine w_blkY ?_ ?_; rfl) | ((refine i_cond ?_); first | refine w_condT rfl ?_ | refine w_condF rfl ?_) | ((refine i_nil ?_); first | refine d_same ?_ | refine d_ord ?_ | refine d_ext ⟨_, rfl⟩ ?_ | refine d_ext (extA _ _ _) ?_ | refine d_ext (by assumption) ?_ | refine w_end0 ?_ | refine w_end1 rfl ?_ | refine w_end2 rfl rfl ?_ | refine w_end3 rfl rfl rfl ?_ | refine w_end4 rfl rfl rfl rfl ?_ | refine w_end5 rfl rfl rfl rfl rfl ?_ | refine w_end6 rfl rfl rfl rfl rfl rfl ?_ | refine w_end7 rfl rfl rfl rfl rfl rfl rfl ?_ | refine w_end8 rfl rfl rfl rfl rfl rfl rfl rfl ?_ | refine w_end9 rfl rfl rfl rfl rfl rfl rfl rfl rfl ?_ | refine w_end10 rfl rfl rfl rfl rfl rfl rfl rfl rfl rfl ?_ | refine w_end11 rfl rfl rfl rfl rfl rfl rfl rfl rfl rfl rfl ?_ | refine w_end12 rfl rfl rfl rfl rfl rfl rfl rfl rfl rfl rfl rfl ?_ | refine w_end13 rfl rfl rfl rfl rfl rfl rfl rfl rfl rfl rfl rfl rfl ?_ | refine w_end14 rfl rfl rfl rfl rfl rfl rfl rfl rfl rfl rfl rfl rfl rfl ?_ | refine w_end15 rfl rfl rfl rfl rfl rfl rfl rfl rfl rfl rfl rfl rfl rfl rfl ?_ | refine w_end16 rfl rfl rfl rfl rfl rfl rfl rfl rfl rfl rfl rfl rfl rfl rfl rfl ?_) | ((refine i_cons ?_); first | refine k_skip rfl ?_ | refine k_skipU rfl ?_ | refine k_want rfl ?_ | refine k_mv rfl ?_ | refine k_pickT rfl rfl ?_ | refine k_pickF rfl rfl ?_ | refine k_notT rfl ?_ | refine k_notF rfl ?_ | refine k_add rfl rfl (by omega) ?_ | refine k_sub rfl rfl (by omega) ?_ | refine k_mul rfl rfl (by omega) ?_ | refine k_neg rfl (by omega) ?_ | refine k_quo rfl rfl (by omega) ?_ | refine k_rem rfl rfl (by omega) ?_ | refine k_conv rfl (by omega) ?_ | refine k_max rfl rfl ?_ | refine k_min rfl rfl ?_ | refine k_lssT rfl rfl (by omega) ?_ | refine k_lssF rfl rfl (by omega) ?_ | refine k_lss rfl rfl (fun hc => ?_) (fun hc => ?_) | refine k_leqT rfl rfl (by omega) ?_ | refine k_leqF rfl rfl (by omega) ?_ | refine k_leq rfl rfl (fun hc => ?_) (fun hc => ?_) | refine k_gtrT rfl rfl (by omega) ?_ | refine k_gtrF rfl rfl (by omega) ?_ | refine k_gtr rfl rfl (fun hc => ?_) (fun hc => ?_) | refine k_geqT rfl rfl (by omega) ?_ | refine k_geqF rfl rfl (by omega) ?_ | refine k_geq rfl rfl (fun hc => ?_) (fun hc => ?_) | refine k_eqlT rfl rfl (by omega) ?_ | refine k_eqlF rfl rfl (by omega) ?_ | refine k_eql rfl rfl (fun hc => ?_) (fun hc => ?_) | refine k_neqT rfl rfl (by omega) ?_ | refine k_neqF rfl rfl (by omega) ?_ | refine k_neq rfl rfl (fun hc => ?_) (fun hc => ?_) | refine k_len rfl rfl ?_ | refine k_ok rfl rfl ?_))
  exact ⟨.inl rfl, K, x3, kx⟩
end Go.Proofs.YtlnjddjobbhcaaaDoor
