/- Contracts: both Parses. -/
import Derived.Test.YtadelcikpkhclaaDoorT5
namespace Go.Proofs.YtadelcikpkhclaaDoor
open Go.Ab
set_option linter.unusedVariables false
set_option maxRecDepth 20000
attribute [local irreducible] wOps wA wSeq wBlk wRound wOpsD

/-- What Parse reads. -/
def candS (s : List UInt8) : Gr := (numT (Lib.cut s [32, 47, 32]).1, numT (Lib.cut s [32, 47, 32]).2.1)
/-- What the reference's Parse reads. -/
def candR (s : List UInt8) : Gr := ((rd s 0 false).take ((rd s 0 false).length / 2), (rd s 0 false).drop ((rd s 0 false).length / 2))
theorem cut_le (s sep : List UInt8) : (Lib.cut s sep).1.length ≤ s.length ∧ (Lib.cut s sep).2.1.length ≤ s.length := by
  unfold Lib.cut
  split
  · simp; omega
  · simp
theorem rd_le : ∀ (s : List UInt8) (n : Int) (op : Bool), (rd s n op).length ≤ s.length + 1
  | [], n, op => by rw [rd_nil]; split <;> simp
  | c :: r, n, op => by
    rw [rd_cons]
    split
    · have := rd_le r (min (10 * n + ((c.toNat : Int) - 48)) 1000) true
      simp only [List.length_cons]; omega
    · have := rd_le r 0 false
      simp only [List.length_append, List.length_cons]
      split <;> simp <;> omega

theorem IsG.wr' {h h1 : Heap} {q : Nat} {a b X O : SV} {g : Gr} (w : Wr h h1 q a b) (hg : IsG h X O g) : IsG h1 X O g := ⟨w.isSl hg.x, w.isSl hg.o⟩

set_option maxHeartbeats 1000000 in
theorem call31 (h0 : Heap) (s : List UInt8) (hp : IsPins h0) (hl : s.length ≤ 60000) (hv : VG (candS s).1 (candS s).2) (hf : fmtG (candS s) = s) :
    ∃ v h', Cal FT HKt 31 [.sc (tb s)] h0 v h' ∧ Ext h0 h' ∧ ∃ X' O', v = .tup [.agg [X', O'], .sc (.int .i64 0)] ∧ IsG h' X' O' (candS s) := by
  refine Cal.of (F := a31) rfl rfl rfl ?_
  have hc := cut_le s [32, 47, 32]
  have hfd : (!decide (fmtG (candS s) = s)) = false := by rw [hf]; simp
  repeat' (first
    | refine w_seq ?_
    | refine w_seqN ?_
    | refine w_seqX ?_
    | refine w_seqR ?_
    | refine w_blk ?_
    | refine w_blkN ?_
    | refine w_blkX ?_
    | refine w_blkR ?_
    | refine w_skip ?_
    | refine w_ret ?_
    | refine w_exit ?_
    | refine w_ops ?_
    | refine w_opsD ?_
    | refine d_one ?_
    | refine d_nil ?_
    | ((refine i_cond ?_); first | refine w_condT rfl ?_ | refine w_condF rfl ?_)
    | ((refine i_nil ?_); first | refine d_same ?_ | refine d_ord ?_ | refine d_ext ⟨_, rfl⟩ ?_ | refine d_ext (extA _ _ _) ?_ | refine d_ext (by assumption) ?_ | refine w_end0 ?_ | refine w_end1 rfl ?_ | refine w_end2 rfl rfl ?_ | refine w_end3 rfl rfl rfl ?_ | refine w_end4 rfl rfl rfl rfl ?_ | refine w_end5 rfl rfl rfl rfl rfl ?_ | refine w_end6 rfl rfl rfl rfl rfl rfl ?_ | refine w_end7 rfl rfl rfl rfl rfl rfl rfl ?_ | refine w_end8 rfl rfl rfl rfl rfl rfl rfl rfl ?_ | refine w_end9 rfl rfl rfl rfl rfl rfl rfl rfl rfl ?_ | refine w_end10 rfl rfl rfl rfl rfl rfl rfl rfl rfl rfl ?_ | refine w_end11 rfl rfl rfl rfl rfl rfl rfl rfl rfl rfl rfl ?_ | refine w_end12 rfl rfl rfl rfl rfl rfl rfl rfl rfl rfl rfl rfl ?_ | refine w_end13 rfl rfl rfl rfl rfl rfl rfl rfl rfl rfl rfl rfl rfl ?_ | refine w_end14 rfl rfl rfl rfl rfl rfl rfl rfl rfl rfl rfl rfl rfl rfl ?_ | refine w_end15 rfl rfl rfl rfl rfl rfl rfl rfl rfl rfl rfl rfl rfl rfl rfl ?_ | refine w_end16 rfl rfl rfl rfl rfl rfl rfl rfl rfl rfl rfl rfl rfl rfl rfl rfl ?_)
    | ((refine i_cons ?_); first
      | (refine k_newst rfl ?_; intro h5 e5 c5; have eD := eC.trans e5; have cD := cC.ext e5; have gD : IsG h5 X1 X2 (candS s) := ⟨IsSl.ext (IsSl.ext i3 e4) e5, IsSl.ext i4 e5⟩)
      | (refine k_newC ?_; intro h1 eA cA)
      | refine k_slen rfl ?_
      | (refine k_call rfl (cut_call (hp.ext eA) s [32, 47, 32] (by omega)) ?_; rintro v h2 ⟨rfl, rfl⟩)
      | (refine k_call rfl (call46 _ _ (hp.ext eA) (by omega)) ?_; rintro v h3 ⟨X1, rfl, i3, e3⟩; have eB := eA.trans e3; have cB := cA.ext e3)
      | (refine k_call rfl (call46 _ _ (hp.ext eB) (by omega)) ?_; rintro v h4 ⟨X2, rfl, i4, e4⟩; have eC := eB.trans e4; have cC := cB.ext e4)
      | refine k_ldC rfl c5 ?_
      | refine k_ldC rfl c6 ?_
      | (refine k_call rfl (call30 _ X1 X2 (candS s) (hp.ext eD) gD hv) ?_; rintro v h6 ⟨e6, rfl⟩; have eE := eD.trans e6; have c6 := c5.ext e6; have cE := cD.ext e6; have gE := gD.ext e6)
      | refine k_sneq rfl rfl hfd ?_
      | (refine k_stC rfl rfl cE ?_; intro h7 w7)
      | refine k_skip rfl ?_
      | refine k_skipU rfl ?_
      | refine k_want rfl ?_
      | refine k_mv rfl ?_
      | refine k_pickT rfl rfl ?_
      | refine k_pickF rfl rfl ?_
      | refine k_notT rfl ?_
      | refine k_notF rfl ?_
      | refine k_add rfl rfl (by omega) ?_
      | refine k_sub rfl rfl (by omega) ?_
      | refine k_mul rfl rfl (by omega) ?_
      | refine k_neg rfl (by omega) ?_
      | refine k_quo rfl rfl (by omega) ?_
      | refine k_rem rfl rfl (by omega) ?_
      | refine k_conv rfl (by omega) ?_
      | refine k_max rfl rfl ?_
      | refine k_min rfl rfl ?_
      | refine k_lssT rfl rfl (by omega) ?_
      | refine k_lssF rfl rfl (by omega) ?_
      | refine k_lss rfl rfl (fun hc => ?_) (fun hc => ?_)
      | refine k_leqT rfl rfl (by omega) ?_
      | refine k_leqF rfl rfl (by omega) ?_
      | refine k_leq rfl rfl (fun hc => ?_) (fun hc => ?_)
      | refine k_gtrT rfl rfl (by omega) ?_
      | refine k_gtrF rfl rfl (by omega) ?_
      | refine k_gtr rfl rfl (fun hc => ?_) (fun hc => ?_)
      | refine k_geqT rfl rfl (by omega) ?_
      | refine k_geqF rfl rfl (by omega) ?_
      | refine k_geq rfl rfl (fun hc => ?_) (fun hc => ?_)
      | refine k_eqlT rfl rfl (by omega) ?_
      | refine k_eqlF rfl rfl (by omega) ?_
      | refine k_eql rfl rfl (fun hc => ?_) (fun hc => ?_)
      | refine k_neqT rfl rfl (by omega) ?_
      | refine k_neqF rfl rfl (by omega) ?_
      | refine k_neq rfl rfl (fun hc => ?_) (fun hc => ?_)
      | refine k_len rfl rfl ?_
      | refine k_ok rfl rfl ?_))
  exact ⟨.inr rfl, oK_cellt rfl ((w7.cel).at.read rfl) rfl ⟨w7.ext eE (Nat.le_refl _), _, _, rfl, IsG.wr' w7 gE⟩⟩
set_option maxHeartbeats 1000000 in
theorem call31e (h0 : Heap) (s : List UInt8) (hp : IsPins h0) (hl : s.length ≤ 60000) (hv : ¬ (VG (candS s).1 (candS s).2 ∧ fmtG (candS s) = s)) :
    ∃ v h', Cal FT HKt 31 [.sc (tb s)] h0 v h' ∧ Ext h0 h' ∧ v = .tup [.agg [.nilS, .nilS], .sc (.int .i64 3)] := by
  refine Cal.of (F := a31) rfl rfl rfl ?_
  have hc := cut_le s [32, 47, 32]
  by_cases hv1 : VG (candS s).1 (candS s).2
  · have hfd : (!decide (fmtG (candS s) = s)) = true := by simp; exact fun h => hv ⟨hv1, h⟩
    repeat' (first
      | refine w_seq ?_
      | refine w_seqN ?_
      | refine w_seqX ?_
      | refine w_seqR ?_
      | refine w_blk ?_
      | refine w_blkN ?_
      | refine w_blkX ?_
      | refine w_blkR ?_
      | refine w_skip ?_
      | refine w_ret ?_
      | refine w_exit ?_
      | refine w_ops ?_
      | refine w_opsD ?_
      | refine d_one ?_
      | refine d_nil ?_
      | ((refine i_cond ?_); first | refine w_condT rfl ?_ | refine w_condF rfl ?_)
      | ((refine i_nil ?_); first | refine d_same ?_ | refine d_ord ?_ | refine d_ext ⟨_, rfl⟩ ?_ | refine d_ext (extA _ _ _) ?_ | refine d_ext (by assumption) ?_ | refine w_end0 ?_ | refine w_end1 rfl ?_ | refine w_end2 rfl rfl ?_ | refine w_end3 rfl rfl rfl ?_ | refine w_end4 rfl rfl rfl rfl ?_ | refine w_end5 rfl rfl rfl rfl rfl ?_ | refine w_end6 rfl rfl rfl rfl rfl rfl ?_ | refine w_end7 rfl rfl rfl rfl rfl rfl rfl ?_ | refine w_end8 rfl rfl rfl rfl rfl rfl rfl rfl ?_ | refine w_end9 rfl rfl rfl rfl rfl rfl rfl rfl rfl ?_ | refine w_end10 rfl rfl rfl rfl rfl rfl rfl rfl rfl rfl ?_ | refine w_end11 rfl rfl rfl rfl rfl rfl rfl rfl rfl rfl rfl ?_ | refine w_end12 rfl rfl rfl rfl rfl rfl rfl rfl rfl rfl rfl rfl ?_ | refine w_end13 rfl rfl rfl rfl rfl rfl rfl rfl rfl rfl rfl rfl rfl ?_ | refine w_end14 rfl rfl rfl rfl rfl rfl rfl rfl rfl rfl rfl rfl rfl rfl ?_ | refine w_end15 rfl rfl rfl rfl rfl rfl rfl rfl rfl rfl rfl rfl rfl rfl rfl ?_ | refine w_end16 rfl rfl rfl rfl rfl rfl rfl rfl rfl rfl rfl rfl rfl rfl rfl rfl ?_)
      | ((refine i_cons ?_); first
        | (refine k_newst rfl ?_; intro h5 e5 c5; have eD := eC.trans e5; have cD := cC.ext e5; have gD : IsG h5 X1 X2 (candS s) := ⟨IsSl.ext (IsSl.ext i3 e4) e5, IsSl.ext i4 e5⟩)
        | (refine k_newC ?_; intro h1 eA cA)
        | refine k_slen rfl ?_
        | (refine k_call rfl (cut_call (hp.ext eA) s [32, 47, 32] (by omega)) ?_; rintro v h2 ⟨rfl, rfl⟩)
        | (refine k_call rfl (call46 _ _ (hp.ext eA) (by omega)) ?_; rintro v h3 ⟨X1, rfl, i3, e3⟩; have eB := eA.trans e3; have cB := cA.ext e3)
        | (refine k_call rfl (call46 _ _ (hp.ext eB) (by omega)) ?_; rintro v h4 ⟨X2, rfl, i4, e4⟩; have eC := eB.trans e4; have cC := cB.ext e4)
        | refine k_ldC rfl c5 ?_
        | refine k_ldC rfl c6 ?_
        | (refine k_call rfl (call30 _ X1 X2 (candS s) (hp.ext eD) gD hv1) ?_; rintro v h6 ⟨e6, rfl⟩; have eE := eD.trans e6; have c6 := c5.ext e6; have cE := cD.ext e6)
        | refine k_sneq rfl rfl hfd ?_
        | refine k_bld rfl rfl ?_
        | (refine k_stC rfl rfl cE ?_; intro h7 w7)
        | refine k_skip rfl ?_
        | refine k_skipU rfl ?_
        | refine k_want rfl ?_
        | refine k_mv rfl ?_
        | refine k_pickT rfl rfl ?_
        | refine k_pickF rfl rfl ?_
        | refine k_notT rfl ?_
        | refine k_notF rfl ?_
        | refine k_add rfl rfl (by omega) ?_
        | refine k_sub rfl rfl (by omega) ?_
        | refine k_mul rfl rfl (by omega) ?_
        | refine k_neg rfl (by omega) ?_
        | refine k_quo rfl rfl (by omega) ?_
        | refine k_rem rfl rfl (by omega) ?_
        | refine k_conv rfl (by omega) ?_
        | refine k_max rfl rfl ?_
        | refine k_min rfl rfl ?_
        | refine k_lssT rfl rfl (by omega) ?_
        | refine k_lssF rfl rfl (by omega) ?_
        | refine k_lss rfl rfl (fun hc => ?_) (fun hc => ?_)
        | refine k_leqT rfl rfl (by omega) ?_
        | refine k_leqF rfl rfl (by omega) ?_
        | refine k_leq rfl rfl (fun hc => ?_) (fun hc => ?_)
        | refine k_gtrT rfl rfl (by omega) ?_
        | refine k_gtrF rfl rfl (by omega) ?_
        | refine k_gtr rfl rfl (fun hc => ?_) (fun hc => ?_)
        | refine k_geqT rfl rfl (by omega) ?_
        | refine k_geqF rfl rfl (by omega) ?_
        | refine k_geq rfl rfl (fun hc => ?_) (fun hc => ?_)
        | refine k_eqlT rfl rfl (by omega) ?_
        | refine k_eqlF rfl rfl (by omega) ?_
        | refine k_eql rfl rfl (fun hc => ?_) (fun hc => ?_)
        | refine k_neqT rfl rfl (by omega) ?_
        | refine k_neqF rfl rfl (by omega) ?_
        | refine k_neq rfl rfl (fun hc => ?_) (fun hc => ?_)
        | refine k_len rfl rfl ?_
        | refine k_ok rfl rfl ?_))
    exact ⟨.inr rfl, oK_cellt rfl ((w7.cel).at.read rfl) rfl ⟨w7.ext eE (Nat.le_refl _), rfl⟩⟩
  · repeat' (first
   | refine w_seq ?_
   | refine w_seqN ?_
   | refine w_seqX ?_
   | refine w_seqR ?_
   | refine w_blk ?_
   | refine w_blkN ?_
   | refine w_blkX ?_
   | refine w_blkR ?_
   | refine w_skip ?_
   | refine w_ret ?_
   | refine w_exit ?_
   | refine w_ops ?_
   | refine w_opsD ?_
   | refine d_one ?_
   | refine d_nil ?_
   | ((refine i_cond ?_); first | refine w_condT rfl ?_ | refine w_condF rfl ?_)
   | ((refine i_nil ?_); first | refine d_same ?_ | refine d_ord ?_ | refine d_ext ⟨_, rfl⟩ ?_ | refine d_ext (extA _ _ _) ?_ | refine d_ext (by assumption) ?_ | refine w_end0 ?_ | refine w_end1 rfl ?_ | refine w_end2 rfl rfl ?_ | refine w_end3 rfl rfl rfl ?_ | refine w_end4 rfl rfl rfl rfl ?_ | refine w_end5 rfl rfl rfl rfl rfl ?_ | refine w_end6 rfl rfl rfl rfl rfl rfl ?_ | refine w_end7 rfl rfl rfl rfl rfl rfl rfl ?_ | refine w_end8 rfl rfl rfl rfl rfl rfl rfl rfl ?_ | refine w_end9 rfl rfl rfl rfl rfl rfl rfl rfl rfl ?_ | refine w_end10 rfl rfl rfl rfl rfl rfl rfl rfl rfl rfl ?_ | refine w_end11 rfl rfl rfl rfl rfl rfl rfl rfl rfl rfl rfl ?_ | refine w_end12 rfl rfl rfl rfl rfl rfl rfl rfl rfl rfl rfl rfl ?_ | refine w_end13 rfl rfl rfl rfl rfl rfl rfl rfl rfl rfl rfl rfl rfl ?_ | refine w_end14 rfl rfl rfl rfl rfl rfl rfl rfl rfl rfl rfl rfl rfl rfl ?_ | refine w_end15 rfl rfl rfl rfl rfl rfl rfl rfl rfl rfl rfl rfl rfl rfl rfl ?_ | refine w_end16 rfl rfl rfl rfl rfl rfl rfl rfl rfl rfl rfl rfl rfl rfl rfl rfl ?_)
   | ((refine i_cons ?_); first
     | (refine k_newst rfl ?_; intro h5 e5 c5; have eD := eC.trans e5; have cD := cC.ext e5; have gD : IsG h5 X1 X2 (candS s) := ⟨IsSl.ext (IsSl.ext i3 e4) e5, IsSl.ext i4 e5⟩)
     | (refine k_newC ?_; intro h1 eA cA)
     | refine k_slen rfl ?_
     | (refine k_call rfl (cut_call (hp.ext eA) s [32, 47, 32] (by omega)) ?_; rintro v h2 ⟨rfl, rfl⟩)
     | (refine k_call rfl (call46 _ _ (hp.ext eA) (by omega)) ?_; rintro v h3 ⟨X1, rfl, i3, e3⟩; have eB := eA.trans e3; have cB := cA.ext e3)
     | (refine k_call rfl (call46 _ _ (hp.ext eB) (by omega)) ?_; rintro v h4 ⟨X2, rfl, i4, e4⟩; have eC := eB.trans e4; have cC := cB.ext e4)
     | refine k_ldC rfl c5 ?_
     | refine k_ldC rfl c6 ?_
     | (refine k_call rfl (call30e _ X1 X2 (candS s) gD hv1) ?_; rintro v h6 ⟨e6, rfl⟩; have eE := eD.trans e6; have c6 := c5.ext e6; have cE := cD.ext e6)
     | refine k_bld rfl rfl ?_
     | (refine k_stC rfl rfl cE ?_; intro h7 w7)
     | refine k_skip rfl ?_
     | refine k_skipU rfl ?_
     | refine k_want rfl ?_
     | refine k_mv rfl ?_
     | refine k_pickT rfl rfl ?_
     | refine k_pickF rfl rfl ?_
     | refine k_notT rfl ?_
     | refine k_notF rfl ?_
     | refine k_add rfl rfl (by omega) ?_
     | refine k_sub rfl rfl (by omega) ?_
     | refine k_mul rfl rfl (by omega) ?_
     | refine k_neg rfl (by omega) ?_
     | refine k_quo rfl rfl (by omega) ?_
     | refine k_rem rfl rfl (by omega) ?_
     | refine k_conv rfl (by omega) ?_
     | refine k_max rfl rfl ?_
     | refine k_min rfl rfl ?_
     | refine k_lssT rfl rfl (by omega) ?_
     | refine k_lssF rfl rfl (by omega) ?_
     | refine k_lss rfl rfl (fun hc => ?_) (fun hc => ?_)
     | refine k_leqT rfl rfl (by omega) ?_
     | refine k_leqF rfl rfl (by omega) ?_
     | refine k_leq rfl rfl (fun hc => ?_) (fun hc => ?_)
     | refine k_gtrT rfl rfl (by omega) ?_
     | refine k_gtrF rfl rfl (by omega) ?_
     | refine k_gtr rfl rfl (fun hc => ?_) (fun hc => ?_)
     | refine k_geqT rfl rfl (by omega) ?_
     | refine k_geqF rfl rfl (by omega) ?_
     | refine k_geq rfl rfl (fun hc => ?_) (fun hc => ?_)
     | refine k_eqlT rfl rfl (by omega) ?_
     | refine k_eqlF rfl rfl (by omega) ?_
     | refine k_eql rfl rfl (fun hc => ?_) (fun hc => ?_)
     | refine k_neqT rfl rfl (by omega) ?_
     | refine k_neqF rfl rfl (by omega) ?_
     | refine k_neq rfl rfl (fun hc => ?_) (fun hc => ?_)
     | refine k_len rfl rfl ?_
     | refine k_ok rfl rfl ?_))
    exact ⟨.inr rfl, oK_cellt rfl ((w7.cel).at.read rfl) rfl ⟨w7.ext eE (Nat.le_refl _), rfl⟩⟩

/-- Two halves. -/
theorem halves {h : Heap} {t : SV} {L : List Int} (i : IsInts h t L) : ∃ P Q, slice1 0 ((L.length : Int) / 2).toNat t = some P ∧ slice1 ((L.length : Int) / 2).toNat ((L.length : Int)).toNat t = some Q ∧
    IsInts h P (L.take (L.length / 2)) ∧ IsInts h Q (L.drop (L.length / 2)) := by
  have e1 : ((L.length : Int) / 2).toNat = L.length / 2 := by omega
  rw [e1, Int.toNat_natCast]
  obtain ⟨P, p1, p2, -⟩ := IsInts.part (l := 0) (u := L.length / 2) i (by omega) (by omega)
  obtain ⟨Q, q1, q2, -⟩ := IsInts.part (l := L.length / 2) (u := L.length) i (by omega) (Nat.le_refl _)
  refine ⟨P, Q, p1, q1, by simpa using p2, ?_⟩
  rw [List.take_of_length_le (by simp)] at q2
  exact q2

set_option maxHeartbeats 1000000 in
theorem call33 (h0 : Heap) (s : List UInt8) (hl : s.length ≤ 60000) (hv : VG (candR s).1 (candR s).2) (hf : fmtG (candR s) = s) :
    ∃ v h', Cal FT HKt 33 [.sc (tb s)] h0 v h' ∧ Ext h0 h' ∧ ∃ X' O', v = .tup [.agg [X', O'], .sc (.int .i64 0)] ∧ IsG h' X' O' (candR s) := by
  refine Cal.of (F := a33) rfl rfl rfl ?_
  have hfd : (!decide (fmtG (candR s) = s)) = false := by rw [hf]; simp
  have hr := rd_le s 0 false
  have k1 := fun h X O (hg : IsG h X O (candR s)) => call14 (HK := HKt) rfl rfl rfl h X O (candR s).1 (candR s).2 hg.x hg.o (by unfold candR; simp; omega)
  rw [decide_eq_true hv] at k1
  repeat' (first
    | refine w_seq ?_
    | refine w_seqN ?_
    | refine w_seqX ?_
    | refine w_seqR ?_
    | refine w_blk ?_
    | refine w_blkN ?_
    | refine w_blkX ?_
    | refine w_blkR ?_
    | refine w_skip ?_
    | refine w_ret ?_
    | refine w_exit ?_
    | refine w_ops ?_
    | refine w_opsD ?_
    | refine d_one ?_
    | refine d_nil ?_
    | ((refine i_cond ?_); first | refine w_condT rfl ?_ | refine w_condF rfl ?_)
    | ((refine i_nil ?_); first | refine d_same ?_ | refine d_ord ?_ | refine d_ext ⟨_, rfl⟩ ?_ | refine d_ext (extA _ _ _) ?_ | refine d_ext (by assumption) ?_ | refine w_end0 ?_ | refine w_end1 rfl ?_ | refine w_end2 rfl rfl ?_ | refine w_end3 rfl rfl rfl ?_ | refine w_end4 rfl rfl rfl rfl ?_ | refine w_end5 rfl rfl rfl rfl rfl ?_ | refine w_end6 rfl rfl rfl rfl rfl rfl ?_ | refine w_end7 rfl rfl rfl rfl rfl rfl rfl ?_ | refine w_end8 rfl rfl rfl rfl rfl rfl rfl rfl ?_ | refine w_end9 rfl rfl rfl rfl rfl rfl rfl rfl rfl ?_ | refine w_end10 rfl rfl rfl rfl rfl rfl rfl rfl rfl rfl ?_ | refine w_end11 rfl rfl rfl rfl rfl rfl rfl rfl rfl rfl rfl ?_ | refine w_end12 rfl rfl rfl rfl rfl rfl rfl rfl rfl rfl rfl rfl ?_ | refine w_end13 rfl rfl rfl rfl rfl rfl rfl rfl rfl rfl rfl rfl rfl ?_ | refine w_end14 rfl rfl rfl rfl rfl rfl rfl rfl rfl rfl rfl rfl rfl rfl ?_ | refine w_end15 rfl rfl rfl rfl rfl rfl rfl rfl rfl rfl rfl rfl rfl rfl rfl ?_ | refine w_end16 rfl rfl rfl rfl rfl rfl rfl rfl rfl rfl rfl rfl rfl rfl rfl rfl ?_)
    | ((refine i_cons ?_); first
      | (refine k_call rfl (call48 _ s (by omega)) ?_; rintro v h3 ⟨T, rfl, i3, e3⟩; have eB := eA.trans e3; have cB := cA.ext e3; have lT := IsSl.len i3; obtain ⟨P, Q, p1, q1, p2, q2⟩ := halves i3)
      | (refine k_newC ?_; intro h4 eN cN; have eM := eB.trans eN; have cM := cB.ext eN; have lN := Ext.len eB; have l0 := cB.lt)
      | (refine k_newC ?_; intro h1 eA cA)
      | refine k_slen rfl ?_
      | refine k_len rfl lT ?_
      | refine k_to rfl lT rfl (by omega) p1 ?_
      | refine k_from rfl lT rfl (by omega) q1 ?_
      | (refine k_stC rfl rfl cN ?_; intro h5 w5; have eC := w5.ext eM lN; have cC := w5.keep cM (by omega); have c5 := w5.cel; have gC : IsG h5 P Q (candR s) := ⟨w5.isSl (IsSl.ext p2 eN), w5.isSl (IsSl.ext q2 eN)⟩)
      | refine k_ldC rfl c5 ?_
      | refine k_ldC rfl c6 ?_
      | refine k_ldC rfl c7 ?_
      | (refine k_call rfl (k1 _ _ _ gC) ?_; rintro v h6 ⟨e6, rfl⟩; have eE := eC.trans e6; have c6 := c5.ext e6; have cE := cC.ext e6; have gE := gC.ext e6)
      | (refine k_call rfl (call32 _ P Q (candR s) gE hv) ?_; rintro v h7 ⟨e7, rfl⟩; have eF := eE.trans e7; have c7 := c6.ext e7; have cF := cE.ext e7; have gF := gE.ext e7)
      | refine k_sneq rfl rfl hfd ?_
      | (refine k_stC rfl rfl cF ?_; intro h8 w8)
      | refine k_skip rfl ?_
      | refine k_skipU rfl ?_
      | refine k_want rfl ?_
      | refine k_mv rfl ?_
      | refine k_pickT rfl rfl ?_
      | refine k_pickF rfl rfl ?_
      | refine k_notT rfl ?_
      | refine k_notF rfl ?_
      | refine k_add rfl rfl (by omega) ?_
      | refine k_sub rfl rfl (by omega) ?_
      | refine k_mul rfl rfl (by omega) ?_
      | refine k_neg rfl (by omega) ?_
      | refine k_quo rfl rfl (by omega) ?_
      | refine k_rem rfl rfl (by omega) ?_
      | refine k_conv rfl (by omega) ?_
      | refine k_max rfl rfl ?_
      | refine k_min rfl rfl ?_
      | refine k_lssT rfl rfl (by omega) ?_
      | refine k_lssF rfl rfl (by omega) ?_
      | refine k_lss rfl rfl (fun hc => ?_) (fun hc => ?_)
      | refine k_leqT rfl rfl (by omega) ?_
      | refine k_leqF rfl rfl (by omega) ?_
      | refine k_leq rfl rfl (fun hc => ?_) (fun hc => ?_)
      | refine k_gtrT rfl rfl (by omega) ?_
      | refine k_gtrF rfl rfl (by omega) ?_
      | refine k_gtr rfl rfl (fun hc => ?_) (fun hc => ?_)
      | refine k_geqT rfl rfl (by omega) ?_
      | refine k_geqF rfl rfl (by omega) ?_
      | refine k_geq rfl rfl (fun hc => ?_) (fun hc => ?_)
      | refine k_eqlT rfl rfl (by omega) ?_
      | refine k_eqlF rfl rfl (by omega) ?_
      | refine k_eql rfl rfl (fun hc => ?_) (fun hc => ?_)
      | refine k_neqT rfl rfl (by omega) ?_
      | refine k_neqF rfl rfl (by omega) ?_
      | refine k_neq rfl rfl (fun hc => ?_) (fun hc => ?_)
      | refine k_len rfl rfl ?_
      | refine k_ok rfl rfl ?_))
  exact ⟨.inr rfl, oK_cellt rfl ((w8.cel).at.read rfl) rfl ⟨w8.ext eF (Nat.le_refl _), _, _, rfl, IsG.wr' w8 gF⟩⟩
set_option maxHeartbeats 1000000 in
theorem call33e (h0 : Heap) (s : List UInt8) (hl : s.length ≤ 60000) (hv : ¬ (VG (candR s).1 (candR s).2 ∧ fmtG (candR s) = s)) :
    ∃ v h', Cal FT HKt 33 [.sc (tb s)] h0 v h' ∧ Ext h0 h' ∧ v = .tup [.agg [.nilS, .nilS], .sc (.int .i64 3)] := by
  refine Cal.of (F := a33) rfl rfl rfl ?_
  have hr := rd_le s 0 false
  have k1 := fun h X O (hg : IsG h X O (candR s)) => call14 (HK := HKt) rfl rfl rfl h X O (candR s).1 (candR s).2 hg.x hg.o (by unfold candR; simp; omega)
  by_cases hv1 : VG (candR s).1 (candR s).2
  · have hfd : (!decide (fmtG (candR s) = s)) = true := by simp; exact fun h => hv ⟨hv1, h⟩
    rw [decide_eq_true hv1] at k1
    repeat' (first
      | refine w_seq ?_
      | refine w_seqN ?_
      | refine w_seqX ?_
      | refine w_seqR ?_
      | refine w_blk ?_
      | refine w_blkN ?_
      | refine w_blkX ?_
      | refine w_blkR ?_
      | refine w_skip ?_
      | refine w_ret ?_
      | refine w_exit ?_
      | refine w_ops ?_
      | refine w_opsD ?_
      | refine d_one ?_
      | refine d_nil ?_
      | ((refine i_cond ?_); first | refine w_condT rfl ?_ | refine w_condF rfl ?_)
      | ((refine i_nil ?_); first | refine d_same ?_ | refine d_ord ?_ | refine d_ext ⟨_, rfl⟩ ?_ | refine d_ext (extA _ _ _) ?_ | refine d_ext (by assumption) ?_ | refine w_end0 ?_ | refine w_end1 rfl ?_ | refine w_end2 rfl rfl ?_ | refine w_end3 rfl rfl rfl ?_ | refine w_end4 rfl rfl rfl rfl ?_ | refine w_end5 rfl rfl rfl rfl rfl ?_ | refine w_end6 rfl rfl rfl rfl rfl rfl ?_ | refine w_end7 rfl rfl rfl rfl rfl rfl rfl ?_ | refine w_end8 rfl rfl rfl rfl rfl rfl rfl rfl ?_ | refine w_end9 rfl rfl rfl rfl rfl rfl rfl rfl rfl ?_ | refine w_end10 rfl rfl rfl rfl rfl rfl rfl rfl rfl rfl ?_ | refine w_end11 rfl rfl rfl rfl rfl rfl rfl rfl rfl rfl rfl ?_ | refine w_end12 rfl rfl rfl rfl rfl rfl rfl rfl rfl rfl rfl rfl ?_ | refine w_end13 rfl rfl rfl rfl rfl rfl rfl rfl rfl rfl rfl rfl rfl ?_ | refine w_end14 rfl rfl rfl rfl rfl rfl rfl rfl rfl rfl rfl rfl rfl rfl ?_ | refine w_end15 rfl rfl rfl rfl rfl rfl rfl rfl rfl rfl rfl rfl rfl rfl rfl ?_ | refine w_end16 rfl rfl rfl rfl rfl rfl rfl rfl rfl rfl rfl rfl rfl rfl rfl rfl ?_)
      | ((refine i_cons ?_); first
        | (refine k_call rfl (call48 _ s (by omega)) ?_; rintro v h3 ⟨T, rfl, i3, e3⟩; have eB := eA.trans e3; have cB := cA.ext e3; have lT := IsSl.len i3; obtain ⟨P, Q, p1, q1, p2, q2⟩ := halves i3)
        | (refine k_newC ?_; intro h4 eN cN; have eM := eB.trans eN; have cM := cB.ext eN; have lN := Ext.len eB; have l0 := cB.lt)
        | (refine k_newC ?_; intro h1 eA cA)
        | refine k_slen rfl ?_
        | refine k_len rfl lT ?_
        | refine k_to rfl lT rfl (by omega) p1 ?_
        | refine k_from rfl lT rfl (by omega) q1 ?_
        | (refine k_stC rfl rfl cN ?_; intro h5 w5; have eC := w5.ext eM lN; have cC := w5.keep cM (by omega); have c5 := w5.cel; have gC : IsG h5 P Q (candR s) := ⟨w5.isSl (IsSl.ext p2 eN), w5.isSl (IsSl.ext q2 eN)⟩)
        | refine k_ldC rfl c5 ?_
        | refine k_ldC rfl c6 ?_
        | (refine k_call rfl (k1 _ _ _ gC) ?_; rintro v h6 ⟨e6, rfl⟩; have eE := eC.trans e6; have c6 := c5.ext e6; have cE := cC.ext e6; have gE := gC.ext e6)
        | (refine k_call rfl (call32 _ P Q (candR s) gE hv1) ?_; rintro v h7 ⟨e7, rfl⟩; have eF := eE.trans e7; have c7 := c6.ext e7; have cF := cE.ext e7)
        | refine k_sneq rfl rfl hfd ?_
        | refine k_bld rfl rfl ?_
        | (refine k_stC rfl rfl cF ?_; intro h8 w8)
        | refine k_skip rfl ?_
        | refine k_skipU rfl ?_
        | refine k_want rfl ?_
        | refine k_mv rfl ?_
        | refine k_pickT rfl rfl ?_
        | refine k_pickF rfl rfl ?_
        | refine k_notT rfl ?_
        | refine k_notF rfl ?_
        | refine k_add rfl rfl (by omega) ?_
        | refine k_sub rfl rfl (by omega) ?_
        | refine k_mul rfl rfl (by omega) ?_
        | refine k_neg rfl (by omega) ?_
        | refine k_quo rfl rfl (by omega) ?_
        | refine k_rem rfl rfl (by omega) ?_
        | refine k_conv rfl (by omega) ?_
        | refine k_max rfl rfl ?_
        | refine k_min rfl rfl ?_
        | refine k_lssT rfl rfl (by omega) ?_
        | refine k_lssF rfl rfl (by omega) ?_
        | refine k_lss rfl rfl (fun hc => ?_) (fun hc => ?_)
        | refine k_leqT rfl rfl (by omega) ?_
        | refine k_leqF rfl rfl (by omega) ?_
        | refine k_leq rfl rfl (fun hc => ?_) (fun hc => ?_)
        | refine k_gtrT rfl rfl (by omega) ?_
        | refine k_gtrF rfl rfl (by omega) ?_
        | refine k_gtr rfl rfl (fun hc => ?_) (fun hc => ?_)
        | refine k_geqT rfl rfl (by omega) ?_
        | refine k_geqF rfl rfl (by omega) ?_
        | refine k_geq rfl rfl (fun hc => ?_) (fun hc => ?_)
        | refine k_eqlT rfl rfl (by omega) ?_
        | refine k_eqlF rfl rfl (by omega) ?_
        | refine k_eql rfl rfl (fun hc => ?_) (fun hc => ?_)
        | refine k_neqT rfl rfl (by omega) ?_
        | refine k_neqF rfl rfl (by omega) ?_
        | refine k_neq rfl rfl (fun hc => ?_) (fun hc => ?_)
        | refine k_len rfl rfl ?_
        | refine k_ok rfl rfl ?_))
    exact ⟨.inr rfl, oK_cellt rfl ((w8.cel).at.read rfl) rfl ⟨w8.ext eF (Nat.le_refl _), rfl⟩⟩
  · rw [decide_eq_false hv1] at k1
    repeat' (first
      | refine w_seq ?_
      | refine w_seqN ?_
      | refine w_seqX ?_
      | refine w_seqR ?_
      | refine w_blk ?_
      | refine w_blkN ?_
      | refine w_blkX ?_
      | refine w_blkR ?_
      | refine w_skip ?_
      | refine w_ret ?_
      | refine w_exit ?_
      | refine w_ops ?_
      | refine w_opsD ?_
      | refine d_one ?_
      | refine d_nil ?_
      | ((refine i_cond ?_); first | refine w_condT rfl ?_ | refine w_condF rfl ?_)
      | ((refine i_nil ?_); first | refine d_same ?_ | refine d_ord ?_ | refine d_ext ⟨_, rfl⟩ ?_ | refine d_ext (extA _ _ _) ?_ | refine d_ext (by assumption) ?_ | refine w_end0 ?_ | refine w_end1 rfl ?_ | refine w_end2 rfl rfl ?_ | refine w_end3 rfl rfl rfl ?_ | refine w_end4 rfl rfl rfl rfl ?_ | refine w_end5 rfl rfl rfl rfl rfl ?_ | refine w_end6 rfl rfl rfl rfl rfl rfl ?_ | refine w_end7 rfl rfl rfl rfl rfl rfl rfl ?_ | refine w_end8 rfl rfl rfl rfl rfl rfl rfl rfl ?_ | refine w_end9 rfl rfl rfl rfl rfl rfl rfl rfl rfl ?_ | refine w_end10 rfl rfl rfl rfl rfl rfl rfl rfl rfl rfl ?_ | refine w_end11 rfl rfl rfl rfl rfl rfl rfl rfl rfl rfl rfl ?_ | refine w_end12 rfl rfl rfl rfl rfl rfl rfl rfl rfl rfl rfl rfl ?_ | refine w_end13 rfl rfl rfl rfl rfl rfl rfl rfl rfl rfl rfl rfl rfl ?_ | refine w_end14 rfl rfl rfl rfl rfl rfl rfl rfl rfl rfl rfl rfl rfl rfl ?_ | refine w_end15 rfl rfl rfl rfl rfl rfl rfl rfl rfl rfl rfl rfl rfl rfl rfl ?_ | refine w_end16 rfl rfl rfl rfl rfl rfl rfl rfl rfl rfl rfl rfl rfl rfl rfl rfl ?_)
      | ((refine i_cons ?_); first
        | (refine k_call rfl (call48 _ s (by omega)) ?_; rintro v h3 ⟨T, rfl, i3, e3⟩; have eB := eA.trans e3; have cB := cA.ext e3; have lT := IsSl.len i3; obtain ⟨P, Q, p1, q1, p2, q2⟩ := halves i3)
        | (refine k_newC ?_; intro h4 eN cN; have eM := eB.trans eN; have cM := cB.ext eN; have lN := Ext.len eB; have l0 := cB.lt)
        | (refine k_newC ?_; intro h1 eA cA)
        | refine k_slen rfl ?_
        | refine k_len rfl lT ?_
        | refine k_to rfl lT rfl (by omega) p1 ?_
        | refine k_from rfl lT rfl (by omega) q1 ?_
        | (refine k_stC rfl rfl cN ?_; intro h5 w5; have eC := w5.ext eM lN; have cC := w5.keep cM (by omega); have c5 := w5.cel; have gC : IsG h5 P Q (candR s) := ⟨w5.isSl (IsSl.ext p2 eN), w5.isSl (IsSl.ext q2 eN)⟩)
        | refine k_ldC rfl c5 ?_
        | refine k_ldC rfl c6 ?_
        | (refine k_call rfl (k1 _ _ _ gC) ?_; rintro v h6 ⟨e6, rfl⟩; have eE := eC.trans e6; have c6 := c5.ext e6; have cE := cC.ext e6; have gE := gC.ext e6)
        | refine k_bld rfl rfl ?_
        | (refine k_stC rfl rfl cE ?_; intro h8 w8)
        | refine k_skip rfl ?_
        | refine k_skipU rfl ?_
        | refine k_want rfl ?_
        | refine k_mv rfl ?_
        | refine k_pickT rfl rfl ?_
        | refine k_pickF rfl rfl ?_
        | refine k_notT rfl ?_
        | refine k_notF rfl ?_
        | refine k_add rfl rfl (by omega) ?_
        | refine k_sub rfl rfl (by omega) ?_
        | refine k_mul rfl rfl (by omega) ?_
        | refine k_neg rfl (by omega) ?_
        | refine k_quo rfl rfl (by omega) ?_
        | refine k_rem rfl rfl (by omega) ?_
        | refine k_conv rfl (by omega) ?_
        | refine k_max rfl rfl ?_
        | refine k_min rfl rfl ?_
        | refine k_lssT rfl rfl (by omega) ?_
        | refine k_lssF rfl rfl (by omega) ?_
        | refine k_lss rfl rfl (fun hc => ?_) (fun hc => ?_)
        | refine k_leqT rfl rfl (by omega) ?_
        | refine k_leqF rfl rfl (by omega) ?_
        | refine k_leq rfl rfl (fun hc => ?_) (fun hc => ?_)
        | refine k_gtrT rfl rfl (by omega) ?_
        | refine k_gtrF rfl rfl (by omega) ?_
        | refine k_gtr rfl rfl (fun hc => ?_) (fun hc => ?_)
        | refine k_geqT rfl rfl (by omega) ?_
        | refine k_geqF rfl rfl (by omega) ?_
        | refine k_geq rfl rfl (fun hc => ?_) (fun hc => ?_)
        | refine k_eqlT rfl rfl (by omega) ?_
        | refine k_eqlF rfl rfl (by omega) ?_
        | refine k_eql rfl rfl (fun hc => ?_) (fun hc => ?_)
        | refine k_neqT rfl rfl (by omega) ?_
        | refine k_neqF rfl rfl (by omega) ?_
        | refine k_neq rfl rfl (fun hc => ?_) (fun hc => ?_)
        | refine k_len rfl rfl ?_
        | refine k_ok rfl rfl ?_))
    exact ⟨.inr rfl, oK_cellt rfl ((w8.cel).at.read rfl) rfl ⟨w8.ext eE (Nat.le_refl _), rfl⟩⟩
end Go.Proofs.YtadelcikpkhclaaDoor
