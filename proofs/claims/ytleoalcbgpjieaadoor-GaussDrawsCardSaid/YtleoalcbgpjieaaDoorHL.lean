/- The law GaussDraws, reckoned. -/
import Derived.Test.YtleoalcbgpjieaaDoorHG
import Derived.Test.YtleoalcbgpjieaaDoorHV
import Derived.Test.YtleoalcbgpjieaaDoorHW
import Derived.Test.YtleoalcbgpjieaaDoorEU3
import Derived.Test.YtleoalcbgpjieaaDoorM1
import Derived.Test.YtleoalcbgpjieaaDoorGR
import Derived.Test.YtleoalcbgpjieaaDoorH3
import Derived.Test.YtleoalcbgpjieaaDoorT5
import Derived.Test.YtleoalcbgpjieaaDoorAb39
namespace Go.Proofs.YtleoalcbgpjieaaDoor
open Go.Ab
set_option linter.unusedVariables false
set_option linter.unusedSimpArgs false
set_option maxRecDepth 20000
set_option maxHeartbeats 4000000
attribute [local irreducible] wOps wA wSeq wBlk wRound wRoundI wOpsD wOpsS

/-- The genus of a valid code. -/
noncomputable def gen (g : GC) : Int := (2 * ((cntR (labIter (mtV g) g.S.length g.S.length) g.S.length : Nat) : Int) + g.S.length - (leasts (mtV g) (mtV g).length).length).tdiv 2
theorem gen_parts {g : GC} (hg : VG g) {P : Nat} {ps : List Int} (hp : Parts (mtV g) g.S.length ps P) : (2 * (P : Int) + g.S.length - (leasts (mtV g) (mtV g).length).length).tdiv 2 = gen g := by
  have hF := hg.front
  unfold gen
  rw [rep_parts hF.mates hF.inv hF.fits hp]
theorem gen_sph {g : GC} (hg : VG g) {P : Nat} {ps : List Int} (hp : Parts (mtV g) g.S.length ps P) (h0 : gen g = 0) : PV g.S (mtV g) g.L := by
  have hF := hg.front
  refine ⟨hF, ((genus_ok hF.mates hF.inv hF.fits (fun x hx => (hF.mateg hx).2.2.2.1) hp).2 ?_).2⟩
  rw [gen_parts hg hp]; exact h0
theorem vldT {g : GC} (hf : GFits g) (hg : VG g) (h0 : Heap) (X Sg : SV) (hc : IsCode h0 X Sg g) : ∃ v h', Cal FT HKt 16 [.agg [X, Sg, .int .i64 g.L]] h0 v h' ∧ Ext h0 h' ∧ v = .sc (.bool true) := by
  obtain ⟨v, h', c, e, b, rfl, q⟩ := call16 h0 X Sg g hf hc
  obtain rfl := q.2 hg
  exact ⟨_, h', c, e, rfl⟩
theorem bF {b : Bool} {p : Prop} (q : b = true ↔ p) (h : ¬ p) : b = false := by
  cases b with
  | false => rfl
  | true => exact absurd (q.1 rfl) h
theorem vldF {g : GC} (hf : GFits g) (hg : ¬ VG g) (h0 : Heap) (X Sg : SV) (hc : IsCode h0 X Sg g) : ∃ v h', Cal FT HKt 16 [.agg [X, Sg, .int .i64 g.L]] h0 v h' ∧ Ext h0 h' ∧ v = .sc (.bool false) := by
  obtain ⟨v, h', c, e, b, rfl, q⟩ := call16 h0 X Sg g hf hc
  obtain rfl := bF q hg
  exact ⟨_, h', c, e, rfl⟩
theorem rvlT {g : GC} (hf : GFits g) (hg : VG g) (h0 : Heap) (X Sg : SV) (hc : IsCode h0 X Sg g) : ∃ v h', Cal FT HKt 20 [.agg [X, Sg, .int .i64 g.L]] h0 v h' ∧ Ext h0 h' ∧ v = .sc (.bool true) := by
  obtain ⟨v, h', c, e, b, rfl, q⟩ := call20 h0 X Sg g hf hc
  obtain rfl := q.2 hg
  exact ⟨_, h', c, e, rfl⟩
theorem rvlF {g : GC} (hf : GFits g) (hg : ¬ VG g) (h0 : Heap) (X Sg : SV) (hc : IsCode h0 X Sg g) : ∃ v h', Cal FT HKt 20 [.agg [X, Sg, .int .i64 g.L]] h0 v h' ∧ Ext h0 h' ∧ v = .sc (.bool false) := by
  obtain ⟨v, h', c, e, b, rfl, q⟩ := call20 h0 X Sg g hf hc
  obtain rfl := bF q hg
  exact ⟨_, h', c, e, rfl⟩
theorem genT {g : GC} (hg : VG g) (h0 : Heap) (t : SV) (ht : IsInts h0 t (mtV g)) : ∃ v h', Cal FT HKt 36 [.sc t] h0 v h' ∧ Ext h0 h' ∧ v = .sc (.int .i64 (gen g)) ∧ ∃ P ps, Parts (mtV g) g.S.length ps P := by
  have hF := hg.front
  obtain ⟨v, h', c, e, P, ps, hp, rfl⟩ := call36 h0 t (mtV g) g.S.length ht hF.mates hF.inv hF.fits hF.n64
  exact ⟨_, h', c, e, by rw [gen_parts hg hp], P, ps, hp⟩
theorem call17g (h0 : Heap) (X Sg : SV) (g : GC) (hf : GFits g) (hg : VG g) (hc : IsCode h0 X Sg g) :
    ∃ v h', Cal FT HKt 17 [.agg [X, Sg, .int .i64 g.L]] h0 v h' ∧ Ext h0 h' ∧ v = .tup [.sc (.int .i64 (gen g)), .sc (.int .i64 0)] ∧ ∃ P ps, Parts (mtV g) g.S.length ps P := by
  refine Cal.of (F := a17) rfl rfl rfl ?_
  have k1 := fun H (e : Ext h0 H) => vldT hf hg H X Sg (hc.ext e)
  have k2 := fun H (e : Ext h0 H) => call37 H X Sg g (hc.ext e) hf hg.2.2.2.2.1
  repeat' (first | refine w_seq ?_ | refine w_seqN ?_ | refine w_skip ?_ | refine w_ret ?_ | refine w_ops ?_ | ((refine i_cond ?_); refine w_condF rfl ?_) | ((refine i_nil ?_); first | refine w_end1 rfl ?_ | refine w_end2 rfl rfl ?_) | ((refine i_cons ?_); first | (refine k_box rfl rfl ?_; intro h1 e1 l1 b1) | (refine k_call rfl (k1 h1 e1) ?_; rintro v h2 ⟨e2, rfl⟩; have b2 := b1.ext e2) | refine k_ldA rfl b2 rfl ?_ | refine k_ldA rfl b1 rfl ?_ | (refine k_call rfl (k2 h2 (e1.trans e2)) ?_; rintro v h3 ⟨e3, t, rfl, it⟩; have kg := genT hg h3 t (Ab.Own.ids (xs := mtV g) it)) | (refine k_call rfl kg ?_; rintro v h4 ⟨e4, rfl, hpp⟩) | refine k_mv rfl ?_ | refine k_notT rfl ?_))
  exact ⟨.inr rfl, e1.trans (e2.trans (e3.trans e4)), rfl, hpp⟩
theorem call17e (h0 : Heap) (X Sg : SV) (g : GC) (hf : GFits g) (hg : ¬ VG g) (hc : IsCode h0 X Sg g) :
    ∃ v h', Cal FT HKt 17 [.agg [X, Sg, .int .i64 g.L]] h0 v h' ∧ Ext h0 h' ∧ v = .tup [.sc (.int .i64 0), .sc (.int .i64 1)] := by
  refine Cal.of (F := a17) rfl rfl rfl ?_
  have k1 := fun H (e : Ext h0 H) => vldF hf hg H X Sg (hc.ext e)
  repeat' (first | refine w_seq ?_ | refine w_seqN ?_ | refine w_seqR ?_ | refine w_ret ?_ | refine w_ops ?_ | ((refine i_cond ?_); refine w_condT rfl ?_) | ((refine i_nil ?_); first | refine w_end1 rfl ?_ | refine w_end2 rfl rfl ?_) | ((refine i_cons ?_); first | (refine k_box rfl rfl ?_; intro h1 e1 l1 b1) | (refine k_call rfl (k1 h1 e1) ?_; rintro v h2 ⟨e2, rfl⟩) | refine k_ldA rfl b1 rfl ?_ | refine k_mv rfl ?_ | refine k_notF rfl ?_))
  exact ⟨.inr rfl, e1.trans e2, rfl⟩
theorem call19e (h0 : Heap) (X Sg : SV) (g : GC) (hf : GFits g) (hg : ¬ VG g) (hc : IsCode h0 X Sg g) :
    ∃ v h', Cal FT HKt 19 [.agg [X, Sg, .int .i64 g.L]] h0 v h' ∧ Ext h0 h' ∧ v = .tup [.agg [.nilS, .nilS, .int .i64 0], .sc (.int .i64 1)] := by
  refine Cal.of (F := a19) rfl rfl rfl ?_
  have k1 := fun H (e : Ext h0 H) => vldF hf hg H X Sg (hc.ext e)
  repeat' (first | refine w_seq ?_ | refine w_seqN ?_ | refine w_seqR ?_ | refine w_ret ?_ | refine w_ops ?_ | ((refine i_cond ?_); refine w_condT rfl ?_) | ((refine i_nil ?_); first | refine w_end2 rfl rfl ?_ | refine w_end3 rfl rfl rfl ?_) | ((refine i_cons ?_); first | (refine k_box rfl rfl ?_; intro h1 e1 l1 b1) | (refine k_new3 ?_; intro h2 e2 l2 c2; have b2 := b1.ext e2) | (refine k_call rfl (k1 h2 (e1.trans e2)) ?_; rintro v h3 ⟨e3, rfl⟩; have c3 := c2.ext e3) | refine k_ldA rfl b2 rfl ?_ | refine k_bld rfl rfl ?_ | (refine k_st3 rfl rfl c3 ?_; intro h7 q7 c7) | refine k_mv rfl ?_ | refine k_notF rfl ?_))
  have n1 := e1.len
  have x7 : Ext h0 h7 := by rw [q7]; exact (e1.trans (e2.trans e3)).set (by omega) _
  exact ⟨.inr rfl, oK_cellt rfl c7.read rfl ⟨x7, rfl⟩⟩
theorem call19n (h0 : Heap) (X Sg : SV) (g : GC) (hf : GFits g) (hg : VG g) (hn : gen g ≠ 0) (hc : IsCode h0 X Sg g) :
    ∃ v h', Cal FT HKt 19 [.agg [X, Sg, .int .i64 g.L]] h0 v h' ∧ Ext h0 h' ∧ v = .tup [.agg [.nilS, .nilS, .int .i64 0], .sc (.int .i64 7)] := by
  refine Cal.of (F := a19) rfl rfl rfl ?_
  have k1 := fun H (e : Ext h0 H) => vldT hf hg H X Sg (hc.ext e)
  have k2 := fun H (e : Ext h0 H) => call37 H X Sg g (hc.ext e) hf hg.2.2.2.2.1
  repeat' (first | refine w_seq ?_ | refine w_seqN ?_ | refine w_seqR ?_ | refine w_skip ?_ | refine w_ret ?_ | refine w_ops ?_ | ((refine i_cond ?_); first | refine w_condT rfl ?_ | refine w_condF rfl ?_) | ((refine i_nil ?_); first | refine w_end2 rfl rfl ?_ | refine w_end3 rfl rfl rfl ?_ | refine w_end4 rfl rfl rfl rfl ?_) | ((refine i_cons ?_); first | (refine k_box rfl rfl ?_; intro h1 e1 l1 b1) | (refine k_new3 ?_; intro h2 e2 l2 c2; have b2 := b1.ext e2) | (refine k_call rfl (k1 h2 (e1.trans e2)) ?_; rintro v h3 ⟨e3, rfl⟩; have b3 := b2.ext e3) | refine k_ldA rfl b3 rfl ?_ | refine k_ldA rfl b2 rfl ?_ | (refine k_call rfl (k2 h3 (e1.trans (e2.trans e3))) ?_; rintro v h4 ⟨e4, t, rfl, it⟩; have kg := genT hg h4 t (Ab.Own.ids (xs := mtV g) it)) | (refine k_call rfl kg ?_; rintro v h5 ⟨e5, rfl, -⟩; have c5 := c2.ext (e3.trans (e4.trans e5))) | refine k_bld rfl rfl ?_ | (refine k_st3 rfl rfl c5 ?_; intro h7 q7 c7) | refine k_mv rfl ?_ | refine k_notT rfl ?_ | refine k_neqT rfl rfl (by omega) ?_))
  have n1 := e1.len
  have x7 : Ext h0 h7 := by rw [q7]; exact (e1.trans (e2.trans (e3.trans (e4.trans e5)))).set (by omega) _
  exact ⟨.inr rfl, oK_cellt rfl c7.read rfl ⟨x7, rfl⟩⟩
theorem call19g (h0 : Heap) (X Sg : SV) (g : GC) (hf : GFits g) (hg : VG g) (hn : gen g = 0) (hc : IsCode h0 X Sg g) :
    ∃ v h', Cal FT HKt 19 [.agg [X, Sg, .int .i64 g.L]] h0 v h' ∧ Ext h0 h' ∧ ∃ s' t', v = .tup [.agg [s', t', .int .i64 g.L], .sc (.int .i64 0)] ∧ IsInts h' s' g.S ∧ IsInts h' t' (mtV g) := by
  refine Cal.of (F := a19) rfl rfl rfl ?_
  have h64 := hg.front.n64
  have k1 := fun H (e : Ext h0 H) => vldT hf hg H X Sg (hc.ext e)
  have k2 := fun H (e : Ext h0 H) => call37 H X Sg g (hc.ext e) hf hg.2.2.2.2.1
  have kc := fun H (e : Ext h0 H) => call29 H Sg g.S (IsSl.ext hc.s e) (by omega)
  repeat' (first | refine w_seq ?_ | refine w_seqN ?_ | refine w_skip ?_ | refine w_ret ?_ | refine w_ops ?_ | refine w_opsD ?_ | refine d_one ?_ | refine d_nil ?_ | ((refine i_cond ?_); refine w_condF rfl ?_) | ((refine i_nil ?_); first | refine d_same ?_ | refine d_ord ?_ | refine d_ext (by assumption) ?_ | refine w_end2 rfl rfl ?_ | refine w_end3 rfl rfl rfl ?_ | refine w_end4 rfl rfl rfl rfl ?_) | ((refine i_cons ?_); first | (refine k_box rfl rfl ?_; intro h1 e1 l1 b1) | (refine k_new3 ?_; intro h2 e2 l2 c2; have b2 := b1.ext e2) | (refine k_call rfl (k1 h2 (e1.trans e2)) ?_; rintro v h3 ⟨e3, rfl⟩; have b3 := b2.ext e3) | refine k_ldA rfl b3 rfl ?_ | refine k_ldA rfl b2 rfl ?_ | (refine k_call rfl (k2 h3 (e1.trans (e2.trans e3))) ?_; rintro v h4 ⟨e4, t, rfl, it⟩; have kg := genT hg h4 t (Ab.Own.ids (xs := mtV g) it); rw [hn] at kg) | (refine k_call rfl kg ?_; rintro v h5 ⟨e5, rfl, -⟩; have b5 := b3.ext (e4.trans e5)) | refine k_fldA rfl ?_ | refine k_ldb rfl b6 rfl ?_ | refine k_ldb rfl b5 rfl ?_ | (refine k_call rfl (kc h5 (e1.trans (e2.trans (e3.trans (e4.trans e5))))) ?_; rintro v h6 ⟨e6, s6, rfl, i6, f6⟩; have b6 := b5.ext e6; have c6 := c2.ext (e3.trans (e4.trans (e5.trans e6)))) | refine k_bld rfl rfl ?_ | (refine k_st3 rfl rfl c6 ?_; intro h7 q7 c7) | refine k_mv rfl ?_ | refine k_notT rfl ?_ | refine k_neqF rfl rfl (by omega) ?_))
  have n1 := e1.len
  have n2 := e2.len
  have n3 := e3.len
  have n4 := e4.len
  have n5 := e5.len
  have x7 : Ext h0 h7 := by rw [q7]; exact (e1.trans (e2.trans (e3.trans (e4.trans (e5.trans e6))))).set (by omega) _
  have nt : NotAt t h1.length := notAt_of_le it (by omega)
  have ns : NotAt s6 h1.length := f6 _ (by omega)
  have kp : ∀ (j : Nat) (b : Blk), h6[j]? = some b → j ≠ h1.length → h7[j]? = some b := fun j b hj hn => by rw [q7, List.getElem?_set_ne (fun e => hn e.symm)]; exact hj
  refine ⟨.inr rfl, oK_cellt rfl c7.read rfl ⟨x7, s6, t, rfl, ?_, ?_⟩⟩
  · exact IsSl.keep i6 fun j b hj ht => kp j b hj fun e => by subst e; exact ht ns
  · exact IsSl.keep (IsSl.ext (Ab.Own.ids (xs := mtV g) it) (e5.trans e6)) fun j b hj ht => kp j b hj fun e => by subst e; exact ht nt
/-- The reference's Equal, of equal diagrams. -/
theorem call22t (h0 : Heap) (s m s' m' : SV) (l : Int) (xs ms : List Int) (i1 : IsInts h0 s xs) (i2 : IsInts h0 m ms) (i3 : IsInts h0 s' xs) (i4 : IsInts h0 m' ms) (hx : xs.length ≤ 1000) (hm : ms.length ≤ 1000) :
    ∃ v h', Cal FT HKt 22 [.agg [s, m, .int .i64 l], .agg [s', m', .int .i64 l]] h0 v h' ∧ Ext h0 h' ∧ v = .sc (.bool true) := by
  refine Cal.of (F := a22) rfl rfl rfl ?_
  have k1 := fun H (e : Ext h0 H) => call34 H s s' xs xs (IsSl.ext i1 e) (IsSl.ext i3 e) (by omega) (by omega)
  have k2 := fun H (e : Ext h0 H) => call34 H m m' ms ms (IsSl.ext i2 e) (IsSl.ext i4 e) (by omega) (by omega)
  rw [decide_eq_true rfl] at k1
  rw [decide_eq_true rfl] at k2
  repeat' (first | refine w_seq ?_ | refine w_seqN ?_ | refine w_ret ?_ | refine w_ops ?_ | ((refine i_nil ?_); first | refine w_end1 rfl ?_ | refine w_end2 rfl rfl ?_) | ((refine i_cons ?_); first | (have b1' := b1; refine k_box rfl rfl ?_; intro h2 e2 l2 b2; have b12 := b1.ext e2) | (refine k_box rfl rfl ?_; intro h1 e1 l1 b1) | refine k_fldA rfl ?_ | refine k_ldb rfl b12 rfl ?_ | refine k_ldb rfl b2 rfl ?_ | (refine k_call rfl (k1 _ (e1.trans e2)) ?_; rintro v h3 ⟨rfl, rfl⟩) | (refine k_call rfl (k2 _ (e1.trans e2)) ?_; rintro v h4 ⟨rfl, rfl⟩) | refine k_want rfl ?_ | refine k_mv rfl ?_ | refine k_pickT rfl rfl ?_ | refine k_eqlT rfl rfl (by omega) ?_))
  exact ⟨.inr rfl, e1.trans e2, rfl⟩
theorem vcs_pr : ∀ vs : List Vis, vcs vs = prC vs
  | [] => rfl
  | v :: r => by
    have := vcs_pr r
    simp only [vcs, vc, prC, this]
theorem Few.len {g : GC} (h : Few g) : g.S.length ≤ 1000 ∧ (mtV g).length ≤ 1000 := by
  have h1 := h.1
  have h2 : (mtV g).length = 4 * g.S.length := mtG_len g.S g.C g.C.length
  omega
set_option maxHeartbeats 16000000 in
theorem call6 (h0 : Heap) (X Sg : SV) (g : GC) (hw : Wide g) (hc : IsCode h0 X Sg g) : ∃ v h', Cal FT HKt 6 [.agg [X, Sg, .int .i64 g.L]] h0 v h' ∧ v = .sc (.bool true) := by
  refine Cal.of (F := a6) rfl rfl rfl ?_
  by_cases hfw : Few g
  · have hf := hfw.fits hw
    have hl := hfw.len
    have kf := fun H (e : Ext h0 H) => fewT H X Sg g hw (hc.ext e) hfw
    have kp := fun H (e : Ext h0 H) => call13 H X Sg g hf (hc.ext e)
    by_cases hg : VG g
    · have kv := fun H (e : Ext h0 H) => vldT hf hg H X Sg (hc.ext e)
      have kg := fun H (e : Ext h0 H) => call17g H X Sg g hf hg (hc.ext e)
      by_cases hn : gen g = 0
      · have kd := fun H (e : Ext h0 H) => call19g H X Sg g hf hg hn (hc.ext e)
        rw [hn] at kg
        repeat' (first | refine w_seq ?_ | refine w_seqN ?_ | refine w_skip ?_ | refine w_ops ?_ | ((refine i_cond ?_); refine w_condF rfl ?_) | ((refine i_nil ?_); first | refine w_end1 rfl ?_ | refine w_end2 rfl rfl ?_) | ((refine i_cons ?_); first | (refine k_box rfl rfl ?_; intro h1 e1 l1 b1) | (refine k_call rfl (awake_callT _) ?_; rintro v ha ⟨rfl, rfl⟩) | refine k_ldA rfl b1 rfl ?_ | (refine k_call rfl (kf ha e1) ?_; rintro v h2 ⟨e2, rfl⟩; have b2 := b1.ext e2; have x2 := e1.trans e2) | refine k_ldA rfl b2 rfl ?_ | (refine k_call rfl (kp h2 x2) ?_; rintro v h3 ⟨e3, Y, rfl, cy⟩) | (refine k_newst3 rfl ?_; intro h4 e4 b4) | refine k_want rfl ?_ | refine k_mv rfl ?_ | refine k_pickF rfl rfl ?_ | refine k_notT rfl ?_))
        have x4 := x2.trans (e3.trans e4)
        have d4 := b2.ext (e3.trans e4)
        have cy4 := cy.ext e4
        repeat' (first | refine w_seq ?_ | refine w_seqN ?_ | refine w_ops ?_ | ((refine i_nil ?_); refine w_end4 rfl rfl rfl rfl ?_) | ((refine i_cons ?_); first | refine k_ldA rfl d4 rfl ?_ | (refine k_call rfl (kg h4 x4) ?_; rintro v h5 ⟨e5, rfl, hpp⟩) | refine k_mv rfl ?_ | refine k_ok rfl rfl ?_))
        have x5 := x4.trans e5
        have d5 := d4.ext e5
        obtain ⟨P, ps, hp⟩ := hpp
        have hPV := gen_sph hg hp hn
        have kG := fun H (e : Ext h4 H) => call21 H Y Sg g (cy4.ext e) hf hg P ps hp
        rw [gen_parts hg hp, hn] at kG
        repeat' (first | refine w_seq ?_ | refine w_seqN ?_ | refine w_opsD ?_ | refine d_one ?_ | ((refine i_nil ?_); refine w_end6 rfl rfl rfl rfl rfl rfl ?_) | ((refine i_cons ?_); first | refine k_ldA rfl d5 rfl ?_ | (refine k_call rfl (kd h5 x5) ?_; rintro v h6 ⟨e6, s', t', rfl, i1, i2⟩) | (refine k_newst3 rfl ?_; intro h7 e7 b7) | refine k_mv rfl ?_ | refine k_ok rfl rfl ?_))
        have x7 := x5.trans (e6.trans e7)
        have y7 := e5.trans (e6.trans e7)
        have d7 := d5.ext (e6.trans e7)
        have p7 := b4.ext y7
        have j1 := IsSl.ext i1 e7
        have j2 := IsSl.ext i2 e7
        have hs' : lenS false s' = some (g.S.length : Int) := IsSl.len i1
        have ht' : lenS false t' = some ((mtV g).length : Int) := IsSl.len i2
        have kr := fun H (e : Ext h4 H) => rvlT hf hg H Y Sg (cy4.ext e)
        have kR := fun H (e : Ext h4 H) => call23 H Y Sg g (cy4.ext e) hf hg.2.2.2.2.1
        have kV := fun H (e : Ext h7 H) => call18 (HK := HKt) rfl rfl rfl rfl rfl H s' t' g.L g.S (mtV g) (IsSl.ext j1 e) (IsSl.ext j2 e)
        repeat' (first | refine w_seq ?_ | refine w_seqN ?_ | refine w_skip ?_ | refine w_ret ?_ | refine w_ops ?_ | refine w_opsD ?_ | refine d_one ?_ | refine d_nil ?_ | ((refine i_cond ?_); refine w_condF rfl ?_) | ((refine i_nil ?_); first | refine d_same ?_ | refine d_ord ?_ | refine d_ext (by assumption) ?_ | refine w_end1 rfl ?_ | refine w_end5 rfl rfl rfl rfl rfl ?_ | refine w_end6 rfl rfl rfl rfl rfl rfl ?_ | refine w_end7 rfl rfl rfl rfl rfl rfl rfl ?_) | ((refine i_cons ?_); first | refine k_ldA rfl d7 rfl ?_ | (refine k_call rfl (kv h7 x7) ?_; rintro v h8 ⟨e8, rfl⟩; have p8 := p7.ext e8; have q8 := b7.ext e8) | refine k_ldA rfl p8 rfl ?_ | (refine k_call rfl (kr h8 (y7.trans e8)) ?_; rintro v h9 ⟨e9, rfl⟩; have q9 := q8.ext e9; have p9 := p8.ext e9; have y9 := y7.trans (e8.trans e9)) | refine k_beq rfl rfl ?_ | refine k_fldA rfl ?_ | refine k_ldb rfl q9 rfl ?_ | refine k_len rfl hs' ?_ | refine k_len rfl ht' ?_ | refine k_ldA rfl p9 rfl ?_ | (refine k_call rfl (kr h9 y9) ?_; rintro v hA ⟨eA, rfl⟩; have qA := q9.ext eA; have pA := p9.ext eA; have yA := y9.trans eA) | refine k_ldA rfl pA rfl ?_ | (refine k_call rfl (kG hA yA) ?_; rintro v hB ⟨eB, rfl⟩; have qB := qA.ext eB; have pB := pA.ext eB; have yB := yA.trans eB; have zB := e8.trans (e9.trans (eA.trans eB))) | refine k_ldA rfl qB rfl ?_ | refine k_ldA rfl pB rfl ?_ | (refine k_call rfl (kR hB yB) ?_; rintro v hC ⟨eC, s2, t2, rfl, r1, r2⟩; have qC := qB.ext eC; have kE := call22t hC s' t' s2 t2 g.L g.S (mtV g) (IsSl.ext j1 (zB.trans eC)) (IsSl.ext j2 (zB.trans eC)) r1 r2 hl.1 hl.2) | (refine k_call rfl kE ?_; rintro v hD ⟨eD, rfl⟩; have qD := qC.ext eD; have zD := zB.trans (eC.trans eD)) | refine k_ldA rfl qD rfl ?_ | (refine k_call rfl (kV hD zD) ?_; rintro v hE ⟨eE, bb, rfl, qq⟩; obtain rfl := qq.2 hPV) | refine k_skip rfl ?_ | refine k_want rfl ?_ | refine k_mv rfl ?_ | refine k_pickT rfl rfl ?_ | refine k_pickF rfl rfl ?_ | refine k_notT rfl ?_ | refine k_eqlT rfl rfl (by omega) ?_ | refine k_eql rfl rfl (fun hc => ?_) (fun hc => ?_) | refine k_neqF rfl rfl (by omega) ?_))
        all_goals exact ⟨.inr rfl, rfl⟩
      · have kd := fun H (e : Ext h0 H) => call19n H X Sg g hf hg hn (hc.ext e)
        generalize hG : gen g = G at *
        repeat' (first | refine w_seq ?_ | refine w_seqN ?_ | refine w_skip ?_ | refine w_ops ?_ | ((refine i_cond ?_); refine w_condF rfl ?_) | ((refine i_nil ?_); first | refine w_end1 rfl ?_ | refine w_end2 rfl rfl ?_) | ((refine i_cons ?_); first | (refine k_box rfl rfl ?_; intro h1 e1 l1 b1) | (refine k_call rfl (awake_callT _) ?_; rintro v ha ⟨rfl, rfl⟩) | refine k_ldA rfl b1 rfl ?_ | (refine k_call rfl (kf ha e1) ?_; rintro v h2 ⟨e2, rfl⟩; have b2 := b1.ext e2; have x2 := e1.trans e2) | refine k_ldA rfl b2 rfl ?_ | (refine k_call rfl (kp h2 x2) ?_; rintro v h3 ⟨e3, Y, rfl, cy⟩) | (refine k_newst3 rfl ?_; intro h4 e4 b4) | refine k_want rfl ?_ | refine k_mv rfl ?_ | refine k_pickF rfl rfl ?_ | refine k_notT rfl ?_))
        have x4 := x2.trans (e3.trans e4)
        have d4 := b2.ext (e3.trans e4)
        have cy4 := cy.ext e4
        repeat' (first | refine w_seq ?_ | refine w_seqN ?_ | refine w_ops ?_ | ((refine i_nil ?_); refine w_end4 rfl rfl rfl rfl ?_) | ((refine i_cons ?_); first | refine k_ldA rfl d4 rfl ?_ | (refine k_call rfl (kg h4 x4) ?_; rintro v h5 ⟨e5, rfl, hpp⟩) | refine k_mv rfl ?_ | refine k_ok rfl rfl ?_))
        have x5 := x4.trans e5
        have d5 := d4.ext e5
        obtain ⟨P, ps, hp⟩ := hpp
        have kG := fun H (e : Ext h4 H) => call21 H Y Sg g (cy4.ext e) hf hg P ps hp
        rw [gen_parts hg hp, hG] at kG
        repeat' (first | refine w_seq ?_ | refine w_seqN ?_ | refine w_opsD ?_ | refine d_one ?_ | ((refine i_nil ?_); refine w_end6 rfl rfl rfl rfl rfl rfl ?_) | ((refine i_cons ?_); first | refine k_ldA rfl d5 rfl ?_ | (refine k_call rfl (kd h5 x5) ?_; rintro v h6 ⟨e6, rfl⟩) | (refine k_newst3 rfl ?_; intro h7 e7 b7) | refine k_mv rfl ?_ | refine k_ok rfl rfl ?_))
        have x7 := x5.trans (e6.trans e7)
        have y7 := e5.trans (e6.trans e7)
        have d7 := d5.ext (e6.trans e7)
        have p7 := b4.ext y7
        have kr := fun H (e : Ext h4 H) => rvlT hf hg H Y Sg (cy4.ext e)
        have ln : lenS false .nilS = some 0 := rfl
        repeat' (first | refine w_seq ?_ | refine w_seqN ?_ | refine w_seqR ?_ | refine w_skip ?_ | refine w_ret ?_ | refine w_ops ?_ | refine d_one ?_ | refine d_nil ?_ | ((refine i_cond ?_); first | refine w_condT rfl ?_ | refine w_condF rfl ?_) | ((refine i_nil ?_); first | refine d_same ?_ | refine d_ord ?_ | refine d_ext (by assumption) ?_ | refine w_end1 rfl ?_ | refine w_end5 rfl rfl rfl rfl rfl ?_ | refine w_end6 rfl rfl rfl rfl rfl rfl ?_ | refine w_end7 rfl rfl rfl rfl rfl rfl rfl ?_) | ((refine i_cons ?_); first | refine k_ldA rfl d7 rfl ?_ | (refine k_call rfl (kv h7 x7) ?_; rintro v h8 ⟨e8, rfl⟩; have p8 := p7.ext e8; have q8 := b7.ext e8) | refine k_ldA rfl p8 rfl ?_ | (refine k_call rfl (kr h8 (y7.trans e8)) ?_; rintro v h9 ⟨e9, rfl⟩; have q9 := q8.ext e9; have p9 := p8.ext e9; have y9 := y7.trans (e8.trans e9)) | refine k_beq rfl rfl ?_ | refine k_fldA rfl ?_ | refine k_ldb rfl q9 rfl ?_ | refine k_len rfl ln ?_ | refine k_ldA rfl p9 rfl ?_ | (refine k_call rfl (kr h9 y9) ?_; rintro v hA ⟨eA, rfl⟩; have qA := q9.ext eA; have pA := p9.ext eA; have yA := y9.trans eA) | refine k_ldA rfl pA rfl ?_ | (refine k_call rfl (kG hA yA) ?_; rintro v hB ⟨eB, rfl⟩) | refine k_want rfl ?_ | refine k_mv rfl ?_ | refine k_pickT rfl rfl ?_ | refine k_pickF rfl rfl ?_ | refine k_notT rfl ?_ | refine k_eqlT rfl rfl (by omega) ?_ | refine k_neqT rfl rfl (by omega) ?_ | refine k_neqF rfl rfl (by omega) ?_))
        all_goals exact ⟨.inr rfl, rfl⟩
    · have kv := fun H (e : Ext h0 H) => vldF hf hg H X Sg (hc.ext e)
      have kg := fun H (e : Ext h0 H) => call17e H X Sg g hf hg (hc.ext e)
      have kd := fun H (e : Ext h0 H) => call19e H X Sg g hf hg (hc.ext e)
      repeat' (first | refine w_seq ?_ | refine w_seqN ?_ | refine w_skip ?_ | refine w_ops ?_ | ((refine i_cond ?_); refine w_condF rfl ?_) | ((refine i_nil ?_); first | refine w_end1 rfl ?_ | refine w_end2 rfl rfl ?_) | ((refine i_cons ?_); first | (refine k_box rfl rfl ?_; intro h1 e1 l1 b1) | (refine k_call rfl (awake_callT _) ?_; rintro v ha ⟨rfl, rfl⟩) | refine k_ldA rfl b1 rfl ?_ | (refine k_call rfl (kf ha e1) ?_; rintro v h2 ⟨e2, rfl⟩; have b2 := b1.ext e2; have x2 := e1.trans e2) | refine k_ldA rfl b2 rfl ?_ | (refine k_call rfl (kp h2 x2) ?_; rintro v h3 ⟨e3, Y, rfl, cy⟩) | (refine k_newst3 rfl ?_; intro h4 e4 b4) | refine k_want rfl ?_ | refine k_mv rfl ?_ | refine k_pickF rfl rfl ?_ | refine k_notT rfl ?_))
      have x4 := x2.trans (e3.trans e4)
      have d4 := b2.ext (e3.trans e4)
      have cy4 := cy.ext e4
      repeat' (first | refine w_seq ?_ | refine w_seqN ?_ | refine w_ops ?_ | ((refine i_nil ?_); refine w_end4 rfl rfl rfl rfl ?_) | ((refine i_cons ?_); first | refine k_ldA rfl d4 rfl ?_ | (refine k_call rfl (kg h4 x4) ?_; rintro v h5 ⟨e5, rfl⟩) | refine k_mv rfl ?_ | refine k_ok rfl rfl ?_))
      have x5 := x4.trans e5
      have d5 := d4.ext e5
      repeat' (first | refine w_seq ?_ | refine w_seqN ?_ | refine w_opsD ?_ | refine d_one ?_ | ((refine i_nil ?_); refine w_end6 rfl rfl rfl rfl rfl rfl ?_) | ((refine i_cons ?_); first | refine k_ldA rfl d5 rfl ?_ | (refine k_call rfl (kd h5 x5) ?_; rintro v h6 ⟨e6, rfl⟩) | (refine k_newst3 rfl ?_; intro h7 e7 b7) | refine k_mv rfl ?_ | refine k_ok rfl rfl ?_))
      have x7 := x5.trans (e6.trans e7)
      have y7 := e5.trans (e6.trans e7)
      have d7 := d5.ext (e6.trans e7)
      have p7 := b4.ext y7
      have kr := fun H (e : Ext h4 H) => rvlF hf hg H Y Sg (cy4.ext e)
      have ln : lenS false .nilS = some 0 := rfl
      repeat' (first | refine w_seq ?_ | refine w_seqN ?_ | refine w_seqR ?_ | refine w_skip ?_ | refine w_ret ?_ | refine w_ops ?_ | refine d_one ?_ | refine d_nil ?_ | ((refine i_cond ?_); first | refine w_condT rfl ?_ | refine w_condF rfl ?_) | ((refine i_nil ?_); first | refine d_same ?_ | refine d_ord ?_ | refine d_ext (by assumption) ?_ | refine w_end1 rfl ?_ | refine w_end6 rfl rfl rfl rfl rfl rfl ?_ | refine w_end7 rfl rfl rfl rfl rfl rfl rfl ?_) | ((refine i_cons ?_); first | refine k_ldA rfl d7 rfl ?_ | (refine k_call rfl (kv h7 x7) ?_; rintro v h8 ⟨e8, rfl⟩; have p8 := p7.ext e8; have q8 := b7.ext e8) | refine k_ldA rfl p8 rfl ?_ | (refine k_call rfl (kr h8 (y7.trans e8)) ?_; rintro v h9 ⟨e9, rfl⟩; have q9 := q8.ext e9; have p9 := p8.ext e9; have y9 := y7.trans (e8.trans e9)) | refine k_beq rfl rfl ?_ | refine k_fldA rfl ?_ | refine k_ldb rfl q9 rfl ?_ | refine k_len rfl ln ?_ | refine k_ldA rfl p9 rfl ?_ | (refine k_call rfl (kr h9 y9) ?_; rintro v hA ⟨eA, rfl⟩) | refine k_want rfl ?_ | refine k_mv rfl ?_ | refine k_pickT rfl rfl ?_ | refine k_notF rfl ?_ | refine k_eqlT rfl rfl (by omega) ?_))
      all_goals exact ⟨.inr rfl, rfl⟩
  · have kf := fun H (e : Ext h0 H) => fewF H X Sg g hw (hc.ext e) hfw
    repeat' (first | refine w_seq ?_ | refine w_seqN ?_ | refine w_seqR ?_ | refine w_ret ?_ | refine w_ops ?_ | ((refine i_cond ?_); refine w_condT rfl ?_) | ((refine i_nil ?_); first | refine w_end1 rfl ?_ | refine w_end2 rfl rfl ?_) | ((refine i_cons ?_); first | (refine k_box rfl rfl ?_; intro h1 e1 l1 b1) | (have z := e2; refine k_call rfl (awake_callT _) ?_; rintro v hz ⟨rfl, rfl⟩) | (refine k_call rfl (awake_callT _) ?_; rintro v ha ⟨rfl, rfl⟩) | refine k_ldA rfl b1 rfl ?_ | (refine k_call rfl (kf ha e1) ?_; rintro v h2 ⟨e2, rfl⟩) | refine k_want rfl ?_ | refine k_mv rfl ?_ | refine k_pickF rfl rfl ?_ | refine k_notT rfl ?_ | refine k_notF rfl ?_))
    exact ⟨.inr rfl, rfl⟩
end Go.Proofs.YtleoalcbgpjieaaDoor
