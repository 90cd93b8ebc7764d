/- Contracts: Cyclic. -/
import Derived.Test.YtgmfjhmphiiifaaDoorR3
import Derived.Test.YtgmfjhmphiiifaaDoorR4
namespace Go.Proofs.YtgmfjhmphiiifaaDoor
open Go.Ab
set_option linter.unusedVariables false
set_option maxRecDepth 20000
attribute [local irreducible] wOps wA wSeq wBlk wRound wOpsD
variable {HK : FuncId → Option Hook}

/-- A rotation that none is less than. -/
def IsLeast (x r : List Int) : Prop := (0 < x.length → ∃ p, p < x.length ∧ r = rot x p ∧ ∀ q, q < x.length → lessL (rot x q) r = false) ∧ (x.length = 0 → r = [])
theorem IsLeast.uniq {x r r' : List Int} (h : IsLeast x r) (h' : IsLeast x r') : r = r' := by
  by_cases h0 : x.length = 0
  · rw [h.2 h0, h'.2 h0]
  · obtain ⟨p, hp, rfl, h1⟩ := h.1 (by omega)
    obtain ⟨q, hq, rfl, h2⟩ := h'.1 (by omega)
    have := same_iff (xs := rot x p) (ys := rot x q) (by rw [rot_len (by omega), rot_len (by omega)])
    rw [h1 q hq, h2 p hp] at this
    simpa using this
theorem IsLeast.len {x r : List Int} (h : IsLeast x r) : r.length = x.length := by
  by_cases h0 : x.length = 0
  · rw [h.2 h0, h0]; rfl
  · obtain ⟨p, hp, rfl, h1⟩ := h.1 (by omega)
    exact rot_len (by omega)

set_option maxHeartbeats 1000000 in
theorem call21 (hk : HK 21 = none) (hk1 : HK 14 = none) (hk2 : HK 32 = none) (hk3 : HK 35 = none) (h0 : Heap) (w : SV) (xs : List Int) (hw : IsInts h0 w xs) (hx : Mid 400 xs) :
    ∃ v h', Cal FT HK 21 [.sc w] h0 v h' ∧ ∃ s' r, v = .sc s' ∧ IsInts h' s' r ∧ Ext h0 h' ∧ IsLeast (core (red xs)) r := by
  refine Cal.of (F := a21) hk rfl rfl ?_
  have mr := hx.red
  obtain ⟨cl, cm⟩ := core_mem _ (red xs) (Nat.le_refl _)
  have hl := mr.1
  repeat' (first
    | refine w_seq ?_
    | refine w_seqN ?_
    | refine w_seqX ?_
    | refine w_seqR ?_
    | refine w_blk ?_
    | refine w_blkN ?_
    | refine w_blkX ?_
    | refine w_blkR ?_
    | refine w_skip ?_
    | refine w_ret ?_
    | refine w_exit ?_
    | refine w_ops ?_
    | refine w_opsD ?_
    | refine d_one ?_
    | refine d_nil ?_
    | ((refine i_cond ?_); first | refine w_condT rfl ?_ | refine w_condF rfl ?_)
    | ((refine i_nil ?_); first | refine d_same ?_ | refine d_ord ?_ | refine d_ext ⟨_, rfl⟩ ?_ | refine d_ext (by assumption) ?_ | refine w_end0 ?_ | refine w_end1 rfl ?_ | refine w_end2 rfl rfl ?_ | refine w_end3 rfl rfl rfl ?_ | refine w_end4 rfl rfl rfl rfl ?_ | refine w_end5 rfl rfl rfl rfl rfl ?_ | refine w_end6 rfl rfl rfl rfl rfl rfl ?_ | refine w_end7 rfl rfl rfl rfl rfl rfl rfl ?_ | refine w_end8 rfl rfl rfl rfl rfl rfl rfl rfl ?_ | refine w_end9 rfl rfl rfl rfl rfl rfl rfl rfl rfl ?_ | refine w_end10 rfl rfl rfl rfl rfl rfl rfl rfl rfl rfl ?_ | refine w_end11 rfl rfl rfl rfl rfl rfl rfl rfl rfl rfl rfl ?_ | refine w_end12 rfl rfl rfl rfl rfl rfl rfl rfl rfl rfl rfl rfl ?_ | refine w_end13 rfl rfl rfl rfl rfl rfl rfl rfl rfl rfl rfl rfl rfl ?_ | refine w_end14 rfl rfl rfl rfl rfl rfl rfl rfl rfl rfl rfl rfl rfl rfl ?_ | refine w_end15 rfl rfl rfl rfl rfl rfl rfl rfl rfl rfl rfl rfl rfl rfl rfl ?_ | refine w_end16 rfl rfl rfl rfl rfl rfl rfl rfl rfl rfl rfl rfl rfl rfl rfl rfl ?_)
    | ((refine i_cons ?_); first
      | (refine k_call rfl (call14 (HK := HK) hk1 hk2 h0 w xs hw ⟨by have := hx.1; omega, hx.big⟩) ?_; rintro v h1 ⟨s1, rfl, q1, q2⟩)
      | refine k_skip rfl ?_
      | refine k_want rfl ?_
      | refine k_mv rfl ?_
      | refine k_pickT rfl rfl ?_
      | refine k_pickF rfl rfl ?_
      | refine k_notT rfl ?_
      | refine k_notF rfl ?_
      | refine k_add rfl rfl (by omega) ?_
      | refine k_sub rfl rfl (by omega) ?_
      | refine k_mul rfl rfl (by omega) ?_
      | refine k_neg rfl (by omega) ?_
      | refine k_quo rfl rfl (by omega) ?_
      | refine k_rem rfl rfl (by omega) ?_
      | refine k_conv rfl (by omega) ?_
      | refine k_max rfl rfl ?_
      | refine k_min rfl rfl ?_
      | refine k_lssT rfl rfl (by omega) ?_
      | refine k_lssF rfl rfl (by omega) ?_
      | refine k_lss rfl rfl (fun hc => ?_) (fun hc => ?_)
      | refine k_leqT rfl rfl (by omega) ?_
      | refine k_leqF rfl rfl (by omega) ?_
      | refine k_leq rfl rfl (fun hc => ?_) (fun hc => ?_)
      | refine k_gtrT rfl rfl (by omega) ?_
      | refine k_gtrF rfl rfl (by omega) ?_
      | refine k_gtr rfl rfl (fun hc => ?_) (fun hc => ?_)
      | refine k_geqT rfl rfl (by omega) ?_
      | refine k_geqF rfl rfl (by omega) ?_
      | refine k_geq rfl rfl (fun hc => ?_) (fun hc => ?_)
      | refine k_eqlT rfl rfl (by omega) ?_
      | refine k_eqlF rfl rfl (by omega) ?_
      | refine k_eql rfl rfl (fun hc => ?_) (fun hc => ?_)
      | refine k_neqT rfl rfl (by omega) ?_
      | refine k_neqF rfl rfl (by omega) ?_
      | refine k_neq rfl rfl (fun hc => ?_) (fun hc => ?_)
      | refine k_len rfl rfl ?_
      | refine k_ok rfl rfl ?_))
  refine w_loop (I21 h1 (red xs)) mu21 (R21 h1 (red xs) 23) ⟨red xs, s1, rfl, Nat.le_refl _, fun y hy => hy, Ab.Own.ids q1, rfl, rfl⟩ (round21 h1 (red xs) (by omega) mr.2) ?_
  rintro ex E' h' ⟨rfl, rfl, s, hs, rfl⟩
  generalize core (red xs) = c at *
  have hln := IsSl.len hs
  have k1 := call35 (HK := HK) hk3 h' s c hs (by omega)
  have hbd0 : (0 : Int) ≤ 0 ∧ (0 : Int) ≤ (c.length : Int) ∧ (c.length : Int) * (8 + 1 : Nat) ≤ bigN := by simp [bigN]; omega
  have hbd : ∀ n : Nat, n ≤ 1000 → n * (8 + 1) ≤ bigN := fun n hn => by simp [bigN]; omega
  by_cases h0c : c.length = 0
  · repeat' (first
   | refine w_seq ?_
   | refine w_seqN ?_
   | refine w_seqX ?_
   | refine w_seqR ?_
   | refine w_blk ?_
   | refine w_blkN ?_
   | refine w_blkX ?_
   | refine w_blkR ?_
   | refine w_skip ?_
   | refine w_ret ?_
   | refine w_exit ?_
   | refine w_ops ?_
   | refine w_opsD ?_
   | refine d_one ?_
   | refine d_nil ?_
   | ((refine i_cond ?_); first | refine w_condT rfl ?_ | refine w_condF rfl ?_)
   | ((refine i_nil ?_); first | refine d_same ?_ | refine d_ord ?_ | refine d_ext ⟨_, rfl⟩ ?_ | refine d_ext (by assumption) ?_ | refine w_end0 ?_ | refine w_end1 rfl ?_ | refine w_end2 rfl rfl ?_ | refine w_end3 rfl rfl rfl ?_ | refine w_end4 rfl rfl rfl rfl ?_ | refine w_end5 rfl rfl rfl rfl rfl ?_ | refine w_end6 rfl rfl rfl rfl rfl rfl ?_ | refine w_end7 rfl rfl rfl rfl rfl rfl rfl ?_ | refine w_end8 rfl rfl rfl rfl rfl rfl rfl rfl ?_ | refine w_end9 rfl rfl rfl rfl rfl rfl rfl rfl rfl ?_ | refine w_end10 rfl rfl rfl rfl rfl rfl rfl rfl rfl rfl ?_ | refine w_end11 rfl rfl rfl rfl rfl rfl rfl rfl rfl rfl rfl ?_ | refine w_end12 rfl rfl rfl rfl rfl rfl rfl rfl rfl rfl rfl rfl ?_ | refine w_end13 rfl rfl rfl rfl rfl rfl rfl rfl rfl rfl rfl rfl rfl ?_ | refine w_end14 rfl rfl rfl rfl rfl rfl rfl rfl rfl rfl rfl rfl rfl rfl ?_ | refine w_end15 rfl rfl rfl rfl rfl rfl rfl rfl rfl rfl rfl rfl rfl rfl rfl ?_ | refine w_end16 rfl rfl rfl rfl rfl rfl rfl rfl rfl rfl rfl rfl rfl rfl rfl rfl ?_)
   | ((refine i_cons ?_); first
     | refine k_len rfl hln ?_
     | (refine k_call rfl k1 ?_; rintro v h2 ⟨rfl, p, rfl, m1, m2⟩)
     | (refine k_make rfl rfl hbd0 ?_; intro ho)
     | refine k_skip rfl ?_
     | refine k_want rfl ?_
     | refine k_mv rfl ?_
     | refine k_pickT rfl rfl ?_
     | refine k_pickF rfl rfl ?_
     | refine k_notT rfl ?_
     | refine k_notF rfl ?_
     | refine k_add rfl rfl (by omega) ?_
     | refine k_sub rfl rfl (by omega) ?_
     | refine k_mul rfl rfl (by omega) ?_
     | refine k_neg rfl (by omega) ?_
     | refine k_quo rfl rfl (by omega) ?_
     | refine k_rem rfl rfl (by omega) ?_
     | refine k_conv rfl (by omega) ?_
     | refine k_max rfl rfl ?_
     | refine k_min rfl rfl ?_
     | refine k_lssT rfl rfl (by omega) ?_
     | refine k_lssF rfl rfl (by omega) ?_
     | refine k_lss rfl rfl (fun hc => ?_) (fun hc => ?_)
     | refine k_leqT rfl rfl (by omega) ?_
     | refine k_leqF rfl rfl (by omega) ?_
     | refine k_leq rfl rfl (fun hc => ?_) (fun hc => ?_)
     | refine k_gtrT rfl rfl (by omega) ?_
     | refine k_gtrF rfl rfl (by omega) ?_
     | refine k_gtr rfl rfl (fun hc => ?_) (fun hc => ?_)
     | refine k_geqT rfl rfl (by omega) ?_
     | refine k_geqF rfl rfl (by omega) ?_
     | refine k_geq rfl rfl (fun hc => ?_) (fun hc => ?_)
     | refine k_eqlT rfl rfl (by omega) ?_
     | refine k_eqlF rfl rfl (by omega) ?_
     | refine k_eql rfl rfl (fun hc => ?_) (fun hc => ?_)
     | refine k_neqT rfl rfl (by omega) ?_
     | refine k_neqF rfl rfl (by omega) ?_
     | refine k_neq rfl rfl (fun hc => ?_) (fun hc => ?_)
     | refine k_len rfl rfl ?_
     | refine k_ok rfl rfl ?_))
    all_goals first
      | (exfalso; omega)
      | skip
    refine ⟨.inr rfl, _, [], rfl, ho.ids, q2.trans ⟨_, rfl⟩, fun h => by omega, fun _ => rfl⟩
  · repeat' (first
   | refine w_seq ?_
   | refine w_seqN ?_
   | refine w_seqX ?_
   | refine w_seqR ?_
   | refine w_blk ?_
   | refine w_blkN ?_
   | refine w_blkX ?_
   | refine w_blkR ?_
   | refine w_skip ?_
   | refine w_ret ?_
   | refine w_exit ?_
   | refine w_ops ?_
   | refine w_opsD ?_
   | refine d_one ?_
   | refine d_nil ?_
   | ((refine i_cond ?_); first | refine w_condT rfl ?_ | refine w_condF rfl ?_)
   | ((refine i_nil ?_); first | refine d_same ?_ | refine d_ord ?_ | refine d_ext ⟨_, rfl⟩ ?_ | refine d_ext (by assumption) ?_ | refine w_end0 ?_ | refine w_end1 rfl ?_ | refine w_end2 rfl rfl ?_ | refine w_end3 rfl rfl rfl ?_ | refine w_end4 rfl rfl rfl rfl ?_ | refine w_end5 rfl rfl rfl rfl rfl ?_ | refine w_end6 rfl rfl rfl rfl rfl rfl ?_ | refine w_end7 rfl rfl rfl rfl rfl rfl rfl ?_ | refine w_end8 rfl rfl rfl rfl rfl rfl rfl rfl ?_ | refine w_end9 rfl rfl rfl rfl rfl rfl rfl rfl rfl ?_ | refine w_end10 rfl rfl rfl rfl rfl rfl rfl rfl rfl rfl ?_ | refine w_end11 rfl rfl rfl rfl rfl rfl rfl rfl rfl rfl rfl ?_ | refine w_end12 rfl rfl rfl rfl rfl rfl rfl rfl rfl rfl rfl rfl ?_ | refine w_end13 rfl rfl rfl rfl rfl rfl rfl rfl rfl rfl rfl rfl rfl ?_ | refine w_end14 rfl rfl rfl rfl rfl rfl rfl rfl rfl rfl rfl rfl rfl rfl ?_ | refine w_end15 rfl rfl rfl rfl rfl rfl rfl rfl rfl rfl rfl rfl rfl rfl rfl ?_ | refine w_end16 rfl rfl rfl rfl rfl rfl rfl rfl rfl rfl rfl rfl rfl rfl rfl rfl ?_)
   | ((refine i_cons ?_); first
     | refine k_len rfl hln ?_
     | (refine k_call rfl k1 ?_; rintro v h2 ⟨rfl, p, rfl, m1, m2⟩)
     | (refine k_make rfl rfl hbd0 ?_; intro ho)
     | refine k_skip rfl ?_
     | refine k_want rfl ?_
     | refine k_mv rfl ?_
     | refine k_pickT rfl rfl ?_
     | refine k_pickF rfl rfl ?_
     | refine k_notT rfl ?_
     | refine k_notF rfl ?_
     | refine k_add rfl rfl (by omega) ?_
     | refine k_sub rfl rfl (by omega) ?_
     | refine k_mul rfl rfl (by omega) ?_
     | refine k_neg rfl (by omega) ?_
     | refine k_quo rfl rfl (by omega) ?_
     | refine k_rem rfl rfl (by omega) ?_
     | refine k_conv rfl (by omega) ?_
     | refine k_max rfl rfl ?_
     | refine k_min rfl rfl ?_
     | refine k_lssT rfl rfl (by omega) ?_
     | refine k_lssF rfl rfl (by omega) ?_
     | refine k_lss rfl rfl (fun hc => ?_) (fun hc => ?_)
     | refine k_leqT rfl rfl (by omega) ?_
     | refine k_leqF rfl rfl (by omega) ?_
     | refine k_leq rfl rfl (fun hc => ?_) (fun hc => ?_)
     | refine k_gtrT rfl rfl (by omega) ?_
     | refine k_gtrF rfl rfl (by omega) ?_
     | refine k_gtr rfl rfl (fun hc => ?_) (fun hc => ?_)
     | refine k_geqT rfl rfl (by omega) ?_
     | refine k_geqF rfl rfl (by omega) ?_
     | refine k_geq rfl rfl (fun hc => ?_) (fun hc => ?_)
     | refine k_eqlT rfl rfl (by omega) ?_
     | refine k_eqlF rfl rfl (by omega) ?_
     | refine k_eql rfl rfl (fun hc => ?_) (fun hc => ?_)
     | refine k_neqT rfl rfl (by omega) ?_
     | refine k_neqF rfl rfl (by omega) ?_
     | refine k_neq rfl rfl (fun hc => ?_) (fun hc => ?_)
     | refine k_len rfl rfl ?_
     | refine k_ok rfl rfl ?_))
    all_goals first
      | (exfalso; omega)
      | skip
    have hmin := m1 (by omega)
    have hpl := hmin.1
    have ho' : Ab.Own h2 (h2 ++ [Blk.cells (rep [SV.int .i64 0] (c.length : Int).toNat) true 1]) (.slc h2.length 0 (Int.toNat 0) (some (c.length : Int).toNat)) [] := ho
    have e1 : Ext h2 (h2 ++ [Blk.cells (rep [SV.int .i64 0] (c.length : Int).toNat) true 1]) := ⟨_, rfl⟩
    obtain ⟨p1, hp1, hp2, -⟩ := IsInts.part (l := p) (u := c.length) (IsSl.ext hs e1) (by omega) (by omega)
    repeat' (first
      | refine w_seq ?_
      | refine w_seqN ?_
      | refine w_seqX ?_
      | refine w_seqR ?_
      | refine w_blk ?_
      | refine w_blkN ?_
      | refine w_blkX ?_
      | refine w_blkR ?_
      | refine w_skip ?_
      | refine w_ret ?_
      | refine w_exit ?_
      | refine w_ops ?_
      | refine w_opsD ?_
      | refine d_one ?_
      | refine d_nil ?_
      | ((refine i_cond ?_); first | refine w_condT rfl ?_ | refine w_condF rfl ?_)
      | ((refine i_nil ?_); first | refine d_same ?_ | refine d_ord ?_ | refine d_ext ⟨_, rfl⟩ ?_ | refine d_ext (by assumption) ?_ | refine w_end0 ?_ | refine w_end1 rfl ?_ | refine w_end2 rfl rfl ?_ | refine w_end3 rfl rfl rfl ?_ | refine w_end4 rfl rfl rfl rfl ?_ | refine w_end5 rfl rfl rfl rfl rfl ?_ | refine w_end6 rfl rfl rfl rfl rfl rfl ?_ | refine w_end7 rfl rfl rfl rfl rfl rfl rfl ?_ | refine w_end8 rfl rfl rfl rfl rfl rfl rfl rfl ?_ | refine w_end9 rfl rfl rfl rfl rfl rfl rfl rfl rfl ?_ | refine w_end10 rfl rfl rfl rfl rfl rfl rfl rfl rfl rfl ?_ | refine w_end11 rfl rfl rfl rfl rfl rfl rfl rfl rfl rfl rfl ?_ | refine w_end12 rfl rfl rfl rfl rfl rfl rfl rfl rfl rfl rfl rfl ?_ | refine w_end13 rfl rfl rfl rfl rfl rfl rfl rfl rfl rfl rfl rfl rfl ?_ | refine w_end14 rfl rfl rfl rfl rfl rfl rfl rfl rfl rfl rfl rfl rfl rfl ?_ | refine w_end15 rfl rfl rfl rfl rfl rfl rfl rfl rfl rfl rfl rfl rfl rfl rfl ?_ | refine w_end16 rfl rfl rfl rfl rfl rfl rfl rfl rfl rfl rfl rfl rfl rfl rfl rfl ?_)
      | ((refine i_cons ?_); first
        | refine k_from rfl hln rfl (by omega) hp1 ?_
        | (refine k_app e1 ho' rfl rfl (IsInts.src hp2) (hbd _ (by simp; omega)) ?_; intro s2 h3 t1 t2 t3 t4)
        | refine k_skip rfl ?_
        | refine k_want rfl ?_
        | refine k_mv rfl ?_
        | refine k_pickT rfl rfl ?_
        | refine k_pickF rfl rfl ?_
        | refine k_notT rfl ?_
        | refine k_notF rfl ?_
        | refine k_add rfl rfl (by omega) ?_
        | refine k_sub rfl rfl (by omega) ?_
        | refine k_mul rfl rfl (by omega) ?_
        | refine k_neg rfl (by omega) ?_
        | refine k_quo rfl rfl (by omega) ?_
        | refine k_rem rfl rfl (by omega) ?_
        | refine k_conv rfl (by omega) ?_
        | refine k_max rfl rfl ?_
        | refine k_min rfl rfl ?_
        | refine k_lssT rfl rfl (by omega) ?_
        | refine k_lssF rfl rfl (by omega) ?_
        | refine k_lss rfl rfl (fun hc => ?_) (fun hc => ?_)
        | refine k_leqT rfl rfl (by omega) ?_
        | refine k_leqF rfl rfl (by omega) ?_
        | refine k_leq rfl rfl (fun hc => ?_) (fun hc => ?_)
        | refine k_gtrT rfl rfl (by omega) ?_
        | refine k_gtrF rfl rfl (by omega) ?_
        | refine k_gtr rfl rfl (fun hc => ?_) (fun hc => ?_)
        | refine k_geqT rfl rfl (by omega) ?_
        | refine k_geqF rfl rfl (by omega) ?_
        | refine k_geq rfl rfl (fun hc => ?_) (fun hc => ?_)
        | refine k_eqlT rfl rfl (by omega) ?_
        | refine k_eqlF rfl rfl (by omega) ?_
        | refine k_eql rfl rfl (fun hc => ?_) (fun hc => ?_)
        | refine k_neqT rfl rfl (by omega) ?_
        | refine k_neqF rfl rfl (by omega) ?_
        | refine k_neq rfl rfl (fun hc => ?_) (fun hc => ?_)
        | refine k_len rfl rfl ?_
        | refine k_ok rfl rfl ?_))
    obtain ⟨p2, hp3, hp4, -⟩ := IsInts.part (l := 0) (u := p) (IsSl.ext hs t2) (by omega) (by omega)
    repeat' (first
      | refine w_seq ?_
      | refine w_seqN ?_
      | refine w_seqX ?_
      | refine w_seqR ?_
      | refine w_blk ?_
      | refine w_blkN ?_
      | refine w_blkX ?_
      | refine w_blkR ?_
      | refine w_skip ?_
      | refine w_ret ?_
      | refine w_exit ?_
      | refine w_ops ?_
      | refine w_opsD ?_
      | refine d_one ?_
      | refine d_nil ?_
      | ((refine i_cond ?_); first | refine w_condT rfl ?_ | refine w_condF rfl ?_)
      | ((refine i_nil ?_); first | refine d_same ?_ | refine d_ord ?_ | refine d_ext ⟨_, rfl⟩ ?_ | refine d_ext (by assumption) ?_ | refine w_end0 ?_ | refine w_end1 rfl ?_ | refine w_end2 rfl rfl ?_ | refine w_end3 rfl rfl rfl ?_ | refine w_end4 rfl rfl rfl rfl ?_ | refine w_end5 rfl rfl rfl rfl rfl ?_ | refine w_end6 rfl rfl rfl rfl rfl rfl ?_ | refine w_end7 rfl rfl rfl rfl rfl rfl rfl ?_ | refine w_end8 rfl rfl rfl rfl rfl rfl rfl rfl ?_ | refine w_end9 rfl rfl rfl rfl rfl rfl rfl rfl rfl ?_ | refine w_end10 rfl rfl rfl rfl rfl rfl rfl rfl rfl rfl ?_ | refine w_end11 rfl rfl rfl rfl rfl rfl rfl rfl rfl rfl rfl ?_ | refine w_end12 rfl rfl rfl rfl rfl rfl rfl rfl rfl rfl rfl rfl ?_ | refine w_end13 rfl rfl rfl rfl rfl rfl rfl rfl rfl rfl rfl rfl rfl ?_ | refine w_end14 rfl rfl rfl rfl rfl rfl rfl rfl rfl rfl rfl rfl rfl rfl ?_ | refine w_end15 rfl rfl rfl rfl rfl rfl rfl rfl rfl rfl rfl rfl rfl rfl rfl ?_ | refine w_end16 rfl rfl rfl rfl rfl rfl rfl rfl rfl rfl rfl rfl rfl rfl rfl rfl ?_)
      | ((refine i_cons ?_); first
        | refine k_to rfl hln rfl (by omega) hp3 ?_
        | (refine k_app t2 t1 rfl rfl (IsInts.src hp4) (hbd _ (by simp; omega)) ?_; intro s3 h4 u1 u2 u3 u4)
        | refine k_skip rfl ?_
        | refine k_want rfl ?_
        | refine k_mv rfl ?_
        | refine k_pickT rfl rfl ?_
        | refine k_pickF rfl rfl ?_
        | refine k_notT rfl ?_
        | refine k_notF rfl ?_
        | refine k_add rfl rfl (by omega) ?_
        | refine k_sub rfl rfl (by omega) ?_
        | refine k_mul rfl rfl (by omega) ?_
        | refine k_neg rfl (by omega) ?_
        | refine k_quo rfl rfl (by omega) ?_
        | refine k_rem rfl rfl (by omega) ?_
        | refine k_conv rfl (by omega) ?_
        | refine k_max rfl rfl ?_
        | refine k_min rfl rfl ?_
        | refine k_lssT rfl rfl (by omega) ?_
        | refine k_lssF rfl rfl (by omega) ?_
        | refine k_lss rfl rfl (fun hc => ?_) (fun hc => ?_)
        | refine k_leqT rfl rfl (by omega) ?_
        | refine k_leqF rfl rfl (by omega) ?_
        | refine k_leq rfl rfl (fun hc => ?_) (fun hc => ?_)
        | refine k_gtrT rfl rfl (by omega) ?_
        | refine k_gtrF rfl rfl (by omega) ?_
        | refine k_gtr rfl rfl (fun hc => ?_) (fun hc => ?_)
        | refine k_geqT rfl rfl (by omega) ?_
        | refine k_geqF rfl rfl (by omega) ?_
        | refine k_geq rfl rfl (fun hc => ?_) (fun hc => ?_)
        | refine k_eqlT rfl rfl (by omega) ?_
        | refine k_eqlF rfl rfl (by omega) ?_
        | refine k_eql rfl rfl (fun hc => ?_) (fun hc => ?_)
        | refine k_neqT rfl rfl (by omega) ?_
        | refine k_neqF rfl rfl (by omega) ?_
        | refine k_neq rfl rfl (fun hc => ?_) (fun hc => ?_)
        | refine k_len rfl rfl ?_
        | refine k_ok rfl rfl ?_))
    have hnew : ints (rot c p) = [] ++ List.map (SV.int .i64) (List.take (c.length - p) (List.drop p c)) ++ List.map (SV.int .i64) (List.take (p - 0) (List.drop 0 c)) := by
      simp [ints, rot, List.take_of_length_le]
    rw [← hnew] at u1
    refine ⟨.inr rfl, s3, rot c p, rfl, Ab.Own.ids u1, q2.trans u2, fun _ => ⟨p, hpl, rfl, hmin.2⟩, fun h => absurd h h0c⟩

def I22 (h0 : Heap) (s : SV) (x : List Int) (E : Env) (h : Heap) : Prop := ∃ (b : List Int) (t : SV) (i : Nat), 1 ≤ i ∧ (i ≤ x.length ∨ i = 1) ∧ IsInts h t b ∧ Ext h0 h ∧ b.length = x.length ∧
  (0 < x.length → ∃ p, p < x.length ∧ b = rot x p ∧ ∀ q, q < i → q < x.length → lessL (rot x q) b = false) ∧
  E = [(3, some (.sc s)), (4, some (.sc t)), (5, some (.sc (.int .i64 i)))]
def R22 (h0 : Heap) (s : SV) (x : List Int) (ex : Ex) (E : Env) (h : Heap) : Prop := ex = .ex 2 ∧ ∃ (b : List Int) (t : SV) (i : Nat), IsInts h t b ∧ Ext h0 h ∧ IsLeast x b ∧
  E = [(3, some (.sc s)), (4, some (.sc t)), (5, some (.sc (.int .i64 i))), (34, some (.sc (.bool false)))]

set_option maxHeartbeats 2000000 in
theorem round22 (hk : HK 33 = none) (h0 : Heap) (s : SV) (x : List Int) (hs : IsInts h0 s x) (hl : x.length ≤ 400) (E : Env) (h : Heap) (hI : I22 h0 s x E h) :
    wA FT HK b22L1 (E.keep [3, 4, 5]) h (wRound (I22 h0 s x) (cnt x.length 5) (cnt x.length 5 E h) (R22 h0 s x)) := by
  obtain ⟨b, t, i, hi1, hi, ht, he, hbl, hbest, rfl⟩ := hI
  have hln := IsSl.len hs
  have hbd : ∀ n : Nat, n ≤ 1000 → n * (8 + 1) ≤ bigN := fun n hn => by simp [bigN]; omega
  by_cases hlt : i < x.length
  · obtain ⟨p, hp, hbp, hq⟩ := hbest (by omega)
    have e1 : Ext h0 (h ++ [Blk.cells [] true 1]) := he.app _
    have ho1 : Ab.Own h (h ++ [Blk.cells [] true 1]) (.slc h.length 0 0 (some 0)) [] := Ab.Own.lit0 h
    have f1 : Ext h (h ++ [Blk.cells [] true 1]) := ⟨_, rfl⟩
    obtain ⟨p1, hp1, hp2, -⟩ := IsInts.part (l := i) (u := x.length) (IsSl.ext hs e1) (by omega) (by omega)
    repeat' (first
      | refine w_seq ?_
      | refine w_seqN ?_
      | refine w_seqX ?_
      | refine w_seqR ?_
      | refine w_blk ?_
      | refine w_blkN ?_
      | refine w_blkX ?_
      | refine w_blkR ?_
      | refine w_skip ?_
      | refine w_ret ?_
      | refine w_exit ?_
      | refine w_ops ?_
      | refine w_opsD ?_
      | refine d_one ?_
      | refine d_nil ?_
      | ((refine i_cond ?_); first | refine w_condT rfl ?_ | refine w_condF rfl ?_)
      | ((refine i_nil ?_); first | refine d_same ?_ | refine d_ord ?_ | refine d_ext ⟨_, rfl⟩ ?_ | refine d_ext (by assumption) ?_ | refine w_end0 ?_ | refine w_end1 rfl ?_ | refine w_end2 rfl rfl ?_ | refine w_end3 rfl rfl rfl ?_ | refine w_end4 rfl rfl rfl rfl ?_ | refine w_end5 rfl rfl rfl rfl rfl ?_ | refine w_end6 rfl rfl rfl rfl rfl rfl ?_ | refine w_end7 rfl rfl rfl rfl rfl rfl rfl ?_ | refine w_end8 rfl rfl rfl rfl rfl rfl rfl rfl ?_ | refine w_end9 rfl rfl rfl rfl rfl rfl rfl rfl rfl ?_ | refine w_end10 rfl rfl rfl rfl rfl rfl rfl rfl rfl rfl ?_ | refine w_end11 rfl rfl rfl rfl rfl rfl rfl rfl rfl rfl rfl ?_ | refine w_end12 rfl rfl rfl rfl rfl rfl rfl rfl rfl rfl rfl rfl ?_ | refine w_end13 rfl rfl rfl rfl rfl rfl rfl rfl rfl rfl rfl rfl rfl ?_ | refine w_end14 rfl rfl rfl rfl rfl rfl rfl rfl rfl rfl rfl rfl rfl rfl ?_ | refine w_end15 rfl rfl rfl rfl rfl rfl rfl rfl rfl rfl rfl rfl rfl rfl rfl ?_ | refine w_end16 rfl rfl rfl rfl rfl rfl rfl rfl rfl rfl rfl rfl rfl rfl rfl rfl ?_)
      | ((refine i_cons ?_); first
        | refine k_len rfl hln ?_
        | refine k_from rfl hln rfl (by omega) hp1 ?_
        | (refine k_app0 f1 ho1 rfl rfl (IsInts.src hp2) (hbd _ (by simp; omega)) ?_; intro s1 h2 q1 q2 q3)
        | refine k_skip rfl ?_
        | refine k_want rfl ?_
        | refine k_mv rfl ?_
        | refine k_pickT rfl rfl ?_
        | refine k_pickF rfl rfl ?_
        | refine k_notT rfl ?_
        | refine k_notF rfl ?_
        | refine k_add rfl rfl (by omega) ?_
        | refine k_sub rfl rfl (by omega) ?_
        | refine k_mul rfl rfl (by omega) ?_
        | refine k_neg rfl (by omega) ?_
        | refine k_quo rfl rfl (by omega) ?_
        | refine k_rem rfl rfl (by omega) ?_
        | refine k_conv rfl (by omega) ?_
        | refine k_max rfl rfl ?_
        | refine k_min rfl rfl ?_
        | refine k_lssT rfl rfl (by omega) ?_
        | refine k_lssF rfl rfl (by omega) ?_
        | refine k_lss rfl rfl (fun hc => ?_) (fun hc => ?_)
        | refine k_leqT rfl rfl (by omega) ?_
        | refine k_leqF rfl rfl (by omega) ?_
        | refine k_leq rfl rfl (fun hc => ?_) (fun hc => ?_)
        | refine k_gtrT rfl rfl (by omega) ?_
        | refine k_gtrF rfl rfl (by omega) ?_
        | refine k_gtr rfl rfl (fun hc => ?_) (fun hc => ?_)
        | refine k_geqT rfl rfl (by omega) ?_
        | refine k_geqF rfl rfl (by omega) ?_
        | refine k_geq rfl rfl (fun hc => ?_) (fun hc => ?_)
        | refine k_eqlT rfl rfl (by omega) ?_
        | refine k_eqlF rfl rfl (by omega) ?_
        | refine k_eql rfl rfl (fun hc => ?_) (fun hc => ?_)
        | refine k_neqT rfl rfl (by omega) ?_
        | refine k_neqF rfl rfl (by omega) ?_
        | refine k_neq rfl rfl (fun hc => ?_) (fun hc => ?_)
        | refine k_len rfl rfl ?_
        | refine k_ok rfl rfl ?_))
    all_goals first
      | (exfalso; omega)
      | skip
    obtain ⟨p2, hp3, hp4, -⟩ := IsInts.part (l := 0) (u := i) (IsSl.ext hs (e1.trans q2)) (by omega) (by omega)
    repeat' (first
      | refine w_seq ?_
      | refine w_seqN ?_
      | refine w_seqX ?_
      | refine w_seqR ?_
      | refine w_blk ?_
      | refine w_blkN ?_
      | refine w_blkX ?_
      | refine w_blkR ?_
      | refine w_skip ?_
      | refine w_ret ?_
      | refine w_exit ?_
      | refine w_ops ?_
      | refine w_opsD ?_
      | refine d_one ?_
      | refine d_nil ?_
      | ((refine i_cond ?_); first | refine w_condT rfl ?_ | refine w_condF rfl ?_)
      | ((refine i_nil ?_); first | refine d_same ?_ | refine d_ord ?_ | refine d_ext ⟨_, rfl⟩ ?_ | refine d_ext (by assumption) ?_ | refine w_end0 ?_ | refine w_end1 rfl ?_ | refine w_end2 rfl rfl ?_ | refine w_end3 rfl rfl rfl ?_ | refine w_end4 rfl rfl rfl rfl ?_ | refine w_end5 rfl rfl rfl rfl rfl ?_ | refine w_end6 rfl rfl rfl rfl rfl rfl ?_ | refine w_end7 rfl rfl rfl rfl rfl rfl rfl ?_ | refine w_end8 rfl rfl rfl rfl rfl rfl rfl rfl ?_ | refine w_end9 rfl rfl rfl rfl rfl rfl rfl rfl rfl ?_ | refine w_end10 rfl rfl rfl rfl rfl rfl rfl rfl rfl rfl ?_ | refine w_end11 rfl rfl rfl rfl rfl rfl rfl rfl rfl rfl rfl ?_ | refine w_end12 rfl rfl rfl rfl rfl rfl rfl rfl rfl rfl rfl rfl ?_ | refine w_end13 rfl rfl rfl rfl rfl rfl rfl rfl rfl rfl rfl rfl rfl ?_ | refine w_end14 rfl rfl rfl rfl rfl rfl rfl rfl rfl rfl rfl rfl rfl rfl ?_ | refine w_end15 rfl rfl rfl rfl rfl rfl rfl rfl rfl rfl rfl rfl rfl rfl rfl ?_ | refine w_end16 rfl rfl rfl rfl rfl rfl rfl rfl rfl rfl rfl rfl rfl rfl rfl rfl ?_)
      | ((refine i_cons ?_); first
        | refine k_to rfl hln rfl (by omega) hp3 ?_
        | (refine k_app (f1.trans q2) q1 rfl rfl (IsInts.src hp4) (hbd _ (by simp; omega)) ?_; intro s3 h4 u1 u2 u3 u4)
        | refine k_skip rfl ?_
        | refine k_want rfl ?_
        | refine k_mv rfl ?_
        | refine k_pickT rfl rfl ?_
        | refine k_pickF rfl rfl ?_
        | refine k_notT rfl ?_
        | refine k_notF rfl ?_
        | refine k_add rfl rfl (by omega) ?_
        | refine k_sub rfl rfl (by omega) ?_
        | refine k_mul rfl rfl (by omega) ?_
        | refine k_neg rfl (by omega) ?_
        | refine k_quo rfl rfl (by omega) ?_
        | refine k_rem rfl rfl (by omega) ?_
        | refine k_conv rfl (by omega) ?_
        | refine k_max rfl rfl ?_
        | refine k_min rfl rfl ?_
        | refine k_lssT rfl rfl (by omega) ?_
        | refine k_lssF rfl rfl (by omega) ?_
        | refine k_lss rfl rfl (fun hc => ?_) (fun hc => ?_)
        | refine k_leqT rfl rfl (by omega) ?_
        | refine k_leqF rfl rfl (by omega) ?_
        | refine k_leq rfl rfl (fun hc => ?_) (fun hc => ?_)
        | refine k_gtrT rfl rfl (by omega) ?_
        | refine k_gtrF rfl rfl (by omega) ?_
        | refine k_gtr rfl rfl (fun hc => ?_) (fun hc => ?_)
        | refine k_geqT rfl rfl (by omega) ?_
        | refine k_geqF rfl rfl (by omega) ?_
        | refine k_geq rfl rfl (fun hc => ?_) (fun hc => ?_)
        | refine k_eqlT rfl rfl (by omega) ?_
        | refine k_eqlF rfl rfl (by omega) ?_
        | refine k_eql rfl rfl (fun hc => ?_) (fun hc => ?_)
        | refine k_neqT rfl rfl (by omega) ?_
        | refine k_neqF rfl rfl (by omega) ?_
        | refine k_neq rfl rfl (fun hc => ?_) (fun hc => ?_)
        | refine k_len rfl rfl ?_
        | refine k_ok rfl rfl ?_))
    have hnew : ints (rot x i) = List.map (SV.int .i64) (List.take (x.length - i) (List.drop i x)) ++ List.map (SV.int .i64) (List.take (i - 0) (List.drop 0 x)) := by
      simp [ints, rot, List.take_of_length_le]
    rw [← hnew] at u1
    have hrl : (rot x i).length = x.length := rot_len (by omega)
    have k1 := call33 (HK := HK) hk h4 s3 t (rot x i) b (Ab.Own.ids u1) (IsSl.ext ht u2) (by omega) (by omega)
    cases hless : lessL (rot x i) b with
    | true =>
      rw [hless] at k1
      repeat' (first
        | refine w_seq ?_
        | refine w_seqN ?_
        | refine w_seqX ?_
        | refine w_seqR ?_
        | refine w_blk ?_
        | refine w_blkN ?_
        | refine w_blkX ?_
        | refine w_blkR ?_
        | refine w_skip ?_
        | refine w_ret ?_
        | refine w_exit ?_
        | refine w_ops ?_
        | refine w_opsD ?_
        | refine d_one ?_
        | refine d_nil ?_
        | ((refine i_cond ?_); first | refine w_condT rfl ?_ | refine w_condF rfl ?_)
        | ((refine i_nil ?_); first | refine d_same ?_ | refine d_ord ?_ | refine d_ext ⟨_, rfl⟩ ?_ | refine d_ext (by assumption) ?_ | refine w_end0 ?_ | refine w_end1 rfl ?_ | refine w_end2 rfl rfl ?_ | refine w_end3 rfl rfl rfl ?_ | refine w_end4 rfl rfl rfl rfl ?_ | refine w_end5 rfl rfl rfl rfl rfl ?_ | refine w_end6 rfl rfl rfl rfl rfl rfl ?_ | refine w_end7 rfl rfl rfl rfl rfl rfl rfl ?_ | refine w_end8 rfl rfl rfl rfl rfl rfl rfl rfl ?_ | refine w_end9 rfl rfl rfl rfl rfl rfl rfl rfl rfl ?_ | refine w_end10 rfl rfl rfl rfl rfl rfl rfl rfl rfl rfl ?_ | refine w_end11 rfl rfl rfl rfl rfl rfl rfl rfl rfl rfl rfl ?_ | refine w_end12 rfl rfl rfl rfl rfl rfl rfl rfl rfl rfl rfl rfl ?_ | refine w_end13 rfl rfl rfl rfl rfl rfl rfl rfl rfl rfl rfl rfl rfl ?_ | refine w_end14 rfl rfl rfl rfl rfl rfl rfl rfl rfl rfl rfl rfl rfl rfl ?_ | refine w_end15 rfl rfl rfl rfl rfl rfl rfl rfl rfl rfl rfl rfl rfl rfl rfl ?_ | refine w_end16 rfl rfl rfl rfl rfl rfl rfl rfl rfl rfl rfl rfl rfl rfl rfl rfl ?_)
        | ((refine i_cons ?_); first
          | (refine k_call rfl k1 ?_; rintro v h5 ⟨rfl, rfl⟩)
          | refine k_skip rfl ?_
          | refine k_want rfl ?_
          | refine k_mv rfl ?_
          | refine k_pickT rfl rfl ?_
          | refine k_pickF rfl rfl ?_
          | refine k_notT rfl ?_
          | refine k_notF rfl ?_
          | refine k_add rfl rfl (by omega) ?_
          | refine k_sub rfl rfl (by omega) ?_
          | refine k_mul rfl rfl (by omega) ?_
          | refine k_neg rfl (by omega) ?_
          | refine k_quo rfl rfl (by omega) ?_
          | refine k_rem rfl rfl (by omega) ?_
          | refine k_conv rfl (by omega) ?_
          | refine k_max rfl rfl ?_
          | refine k_min rfl rfl ?_
          | refine k_lssT rfl rfl (by omega) ?_
          | refine k_lssF rfl rfl (by omega) ?_
          | refine k_lss rfl rfl (fun hc => ?_) (fun hc => ?_)
          | refine k_leqT rfl rfl (by omega) ?_
          | refine k_leqF rfl rfl (by omega) ?_
          | refine k_leq rfl rfl (fun hc => ?_) (fun hc => ?_)
          | refine k_gtrT rfl rfl (by omega) ?_
          | refine k_gtrF rfl rfl (by omega) ?_
          | refine k_gtr rfl rfl (fun hc => ?_) (fun hc => ?_)
          | refine k_geqT rfl rfl (by omega) ?_
          | refine k_geqF rfl rfl (by omega) ?_
          | refine k_geq rfl rfl (fun hc => ?_) (fun hc => ?_)
          | refine k_eqlT rfl rfl (by omega) ?_
          | refine k_eqlF rfl rfl (by omega) ?_
          | refine k_eql rfl rfl (fun hc => ?_) (fun hc => ?_)
          | refine k_neqT rfl rfl (by omega) ?_
          | refine k_neqF rfl rfl (by omega) ?_
          | refine k_neq rfl rfl (fun hc => ?_) (fun hc => ?_)
          | refine k_len rfl rfl ?_
          | refine k_ok rfl rfl ?_))
      refine w_roundN ⟨rot x i, s3, i + 1, by omega, by omega, Ab.Own.ids u1, he.trans u2, hrl, fun _ => ⟨i, hlt, rfl, fun q h1 h2 => ?_⟩, rfl⟩ (by simp [cnt, Env.get]; omega)
      by_cases hqi : q = i
      · subst hqi; exact lessL_irr _
      · refine lessL_trans (b := b) (by omega) (by rw [hbl, rot_len (by omega)]) ?_ (hq q (by omega) h2)
        cases h3 : lessL b (rot x i) with
        | false => rfl
        | true => exact (lessL_asymm hless h3).elim
    | false =>
      rw [hless] at k1
      repeat' (first
        | refine w_seq ?_
        | refine w_seqN ?_
        | refine w_seqX ?_
        | refine w_seqR ?_
        | refine w_blk ?_
        | refine w_blkN ?_
        | refine w_blkX ?_
        | refine w_blkR ?_
        | refine w_skip ?_
        | refine w_ret ?_
        | refine w_exit ?_
        | refine w_ops ?_
        | refine w_opsD ?_
        | refine d_one ?_
        | refine d_nil ?_
        | ((refine i_cond ?_); first | refine w_condT rfl ?_ | refine w_condF rfl ?_)
        | ((refine i_nil ?_); first | refine d_same ?_ | refine d_ord ?_ | refine d_ext ⟨_, rfl⟩ ?_ | refine d_ext (by assumption) ?_ | refine w_end0 ?_ | refine w_end1 rfl ?_ | refine w_end2 rfl rfl ?_ | refine w_end3 rfl rfl rfl ?_ | refine w_end4 rfl rfl rfl rfl ?_ | refine w_end5 rfl rfl rfl rfl rfl ?_ | refine w_end6 rfl rfl rfl rfl rfl rfl ?_ | refine w_end7 rfl rfl rfl rfl rfl rfl rfl ?_ | refine w_end8 rfl rfl rfl rfl rfl rfl rfl rfl ?_ | refine w_end9 rfl rfl rfl rfl rfl rfl rfl rfl rfl ?_ | refine w_end10 rfl rfl rfl rfl rfl rfl rfl rfl rfl rfl ?_ | refine w_end11 rfl rfl rfl rfl rfl rfl rfl rfl rfl rfl rfl ?_ | refine w_end12 rfl rfl rfl rfl rfl rfl rfl rfl rfl rfl rfl rfl ?_ | refine w_end13 rfl rfl rfl rfl rfl rfl rfl rfl rfl rfl rfl rfl rfl ?_ | refine w_end14 rfl rfl rfl rfl rfl rfl rfl rfl rfl rfl rfl rfl rfl rfl ?_ | refine w_end15 rfl rfl rfl rfl rfl rfl rfl rfl rfl rfl rfl rfl rfl rfl rfl ?_ | refine w_end16 rfl rfl rfl rfl rfl rfl rfl rfl rfl rfl rfl rfl rfl rfl rfl rfl ?_)
        | ((refine i_cons ?_); first
          | (refine k_call rfl k1 ?_; rintro v h5 ⟨rfl, rfl⟩)
          | refine k_skip rfl ?_
          | refine k_want rfl ?_
          | refine k_mv rfl ?_
          | refine k_pickT rfl rfl ?_
          | refine k_pickF rfl rfl ?_
          | refine k_notT rfl ?_
          | refine k_notF rfl ?_
          | refine k_add rfl rfl (by omega) ?_
          | refine k_sub rfl rfl (by omega) ?_
          | refine k_mul rfl rfl (by omega) ?_
          | refine k_neg rfl (by omega) ?_
          | refine k_quo rfl rfl (by omega) ?_
          | refine k_rem rfl rfl (by omega) ?_
          | refine k_conv rfl (by omega) ?_
          | refine k_max rfl rfl ?_
          | refine k_min rfl rfl ?_
          | refine k_lssT rfl rfl (by omega) ?_
          | refine k_lssF rfl rfl (by omega) ?_
          | refine k_lss rfl rfl (fun hc => ?_) (fun hc => ?_)
          | refine k_leqT rfl rfl (by omega) ?_
          | refine k_leqF rfl rfl (by omega) ?_
          | refine k_leq rfl rfl (fun hc => ?_) (fun hc => ?_)
          | refine k_gtrT rfl rfl (by omega) ?_
          | refine k_gtrF rfl rfl (by omega) ?_
          | refine k_gtr rfl rfl (fun hc => ?_) (fun hc => ?_)
          | refine k_geqT rfl rfl (by omega) ?_
          | refine k_geqF rfl rfl (by omega) ?_
          | refine k_geq rfl rfl (fun hc => ?_) (fun hc => ?_)
          | refine k_eqlT rfl rfl (by omega) ?_
          | refine k_eqlF rfl rfl (by omega) ?_
          | refine k_eql rfl rfl (fun hc => ?_) (fun hc => ?_)
          | refine k_neqT rfl rfl (by omega) ?_
          | refine k_neqF rfl rfl (by omega) ?_
          | refine k_neq rfl rfl (fun hc => ?_) (fun hc => ?_)
          | refine k_len rfl rfl ?_
          | refine k_ok rfl rfl ?_))
      refine w_roundN ⟨b, t, i + 1, by omega, by omega, IsSl.ext ht u2, he.trans u2, hbl, fun _ => ⟨p, hp, hbp, fun q h1 h2 => ?_⟩, rfl⟩ (by simp [cnt, Env.get]; omega)
      by_cases hqi : q = i
      · subst hqi; exact hless
      · exact hq q (by omega) h2
  · repeat' (first
   | refine w_seq ?_
   | refine w_seqN ?_
   | refine w_seqX ?_
   | refine w_seqR ?_
   | refine w_blk ?_
   | refine w_blkN ?_
   | refine w_blkX ?_
   | refine w_blkR ?_
   | refine w_skip ?_
   | refine w_ret ?_
   | refine w_exit ?_
   | refine w_ops ?_
   | refine w_opsD ?_
   | refine d_one ?_
   | refine d_nil ?_
   | ((refine i_cond ?_); first | refine w_condT rfl ?_ | refine w_condF rfl ?_)
   | ((refine i_nil ?_); first | refine d_same ?_ | refine d_ord ?_ | refine d_ext ⟨_, rfl⟩ ?_ | refine d_ext (by assumption) ?_ | refine w_end0 ?_ | refine w_end1 rfl ?_ | refine w_end2 rfl rfl ?_ | refine w_end3 rfl rfl rfl ?_ | refine w_end4 rfl rfl rfl rfl ?_ | refine w_end5 rfl rfl rfl rfl rfl ?_ | refine w_end6 rfl rfl rfl rfl rfl rfl ?_ | refine w_end7 rfl rfl rfl rfl rfl rfl rfl ?_ | refine w_end8 rfl rfl rfl rfl rfl rfl rfl rfl ?_ | refine w_end9 rfl rfl rfl rfl rfl rfl rfl rfl rfl ?_ | refine w_end10 rfl rfl rfl rfl rfl rfl rfl rfl rfl rfl ?_ | refine w_end11 rfl rfl rfl rfl rfl rfl rfl rfl rfl rfl rfl ?_ | refine w_end12 rfl rfl rfl rfl rfl rfl rfl rfl rfl rfl rfl rfl ?_ | refine w_end13 rfl rfl rfl rfl rfl rfl rfl rfl rfl rfl rfl rfl rfl ?_ | refine w_end14 rfl rfl rfl rfl rfl rfl rfl rfl rfl rfl rfl rfl rfl rfl ?_ | refine w_end15 rfl rfl rfl rfl rfl rfl rfl rfl rfl rfl rfl rfl rfl rfl rfl ?_ | refine w_end16 rfl rfl rfl rfl rfl rfl rfl rfl rfl rfl rfl rfl rfl rfl rfl rfl ?_)
   | ((refine i_cons ?_); first
     | refine k_len rfl hln ?_
     | refine k_skip rfl ?_
     | refine k_want rfl ?_
     | refine k_mv rfl ?_
     | refine k_pickT rfl rfl ?_
     | refine k_pickF rfl rfl ?_
     | refine k_notT rfl ?_
     | refine k_notF rfl ?_
     | refine k_add rfl rfl (by omega) ?_
     | refine k_sub rfl rfl (by omega) ?_
     | refine k_mul rfl rfl (by omega) ?_
     | refine k_neg rfl (by omega) ?_
     | refine k_quo rfl rfl (by omega) ?_
     | refine k_rem rfl rfl (by omega) ?_
     | refine k_conv rfl (by omega) ?_
     | refine k_max rfl rfl ?_
     | refine k_min rfl rfl ?_
     | refine k_lssT rfl rfl (by omega) ?_
     | refine k_lssF rfl rfl (by omega) ?_
     | refine k_lss rfl rfl (fun hc => ?_) (fun hc => ?_)
     | refine k_leqT rfl rfl (by omega) ?_
     | refine k_leqF rfl rfl (by omega) ?_
     | refine k_leq rfl rfl (fun hc => ?_) (fun hc => ?_)
     | refine k_gtrT rfl rfl (by omega) ?_
     | refine k_gtrF rfl rfl (by omega) ?_
     | refine k_gtr rfl rfl (fun hc => ?_) (fun hc => ?_)
     | refine k_geqT rfl rfl (by omega) ?_
     | refine k_geqF rfl rfl (by omega) ?_
     | refine k_geq rfl rfl (fun hc => ?_) (fun hc => ?_)
     | refine k_eqlT rfl rfl (by omega) ?_
     | refine k_eqlF rfl rfl (by omega) ?_
     | refine k_eql rfl rfl (fun hc => ?_) (fun hc => ?_)
     | refine k_neqT rfl rfl (by omega) ?_
     | refine k_neqF rfl rfl (by omega) ?_
     | refine k_neq rfl rfl (fun hc => ?_) (fun hc => ?_)
     | refine k_len rfl rfl ?_
     | refine k_ok rfl rfl ?_))
    all_goals first
      | (exfalso; omega)
      | skip
    refine w_roundX ⟨rfl, b, t, i, ht, he, ⟨fun h => ?_, fun h => List.eq_nil_of_length_eq_zero (by omega)⟩, rfl⟩
    obtain ⟨p, hp, hbp, hq⟩ := hbest h
    exact ⟨p, hp, hbp, fun q h1 => hq q (by omega) h1⟩

set_option maxHeartbeats 1000000 in
theorem call22 (hk : HK 22 = none) (hk1 : HK 18 = none) (hk2 : HK 33 = none) (h0 : Heap) (w : SV) (xs : List Int) (hw : IsInts h0 w xs) (hx : Mid 400 xs) :
    ∃ v h', Cal FT HK 22 [.sc w] h0 v h' ∧ ∃ s' r, v = .sc s' ∧ IsInts h' s' r ∧ Ext h0 h' ∧ IsLeast (core (red xs)) r := by
  refine Cal.of (F := a22) hk rfl rfl ?_
  have mr := hx.red
  obtain ⟨cl, cm⟩ := core_mem _ (red xs) (Nat.le_refl _)
  have hl := mr.1
  repeat' (first
    | refine w_seq ?_
    | refine w_seqN ?_
    | refine w_seqX ?_
    | refine w_seqR ?_
    | refine w_blk ?_
    | refine w_blkN ?_
    | refine w_blkX ?_
    | refine w_blkR ?_
    | refine w_skip ?_
    | refine w_ret ?_
    | refine w_exit ?_
    | refine w_ops ?_
    | refine w_opsD ?_
    | refine d_one ?_
    | refine d_nil ?_
    | ((refine i_cond ?_); first | refine w_condT rfl ?_ | refine w_condF rfl ?_)
    | ((refine i_nil ?_); first | refine d_same ?_ | refine d_ord ?_ | refine d_ext ⟨_, rfl⟩ ?_ | refine d_ext (by assumption) ?_ | refine w_end0 ?_ | refine w_end1 rfl ?_ | refine w_end2 rfl rfl ?_ | refine w_end3 rfl rfl rfl ?_ | refine w_end4 rfl rfl rfl rfl ?_ | refine w_end5 rfl rfl rfl rfl rfl ?_ | refine w_end6 rfl rfl rfl rfl rfl rfl ?_ | refine w_end7 rfl rfl rfl rfl rfl rfl rfl ?_ | refine w_end8 rfl rfl rfl rfl rfl rfl rfl rfl ?_ | refine w_end9 rfl rfl rfl rfl rfl rfl rfl rfl rfl ?_ | refine w_end10 rfl rfl rfl rfl rfl rfl rfl rfl rfl rfl ?_ | refine w_end11 rfl rfl rfl rfl rfl rfl rfl rfl rfl rfl rfl ?_ | refine w_end12 rfl rfl rfl rfl rfl rfl rfl rfl rfl rfl rfl rfl ?_ | refine w_end13 rfl rfl rfl rfl rfl rfl rfl rfl rfl rfl rfl rfl rfl ?_ | refine w_end14 rfl rfl rfl rfl rfl rfl rfl rfl rfl rfl rfl rfl rfl rfl ?_ | refine w_end15 rfl rfl rfl rfl rfl rfl rfl rfl rfl rfl rfl rfl rfl rfl rfl ?_ | refine w_end16 rfl rfl rfl rfl rfl rfl rfl rfl rfl rfl rfl rfl rfl rfl rfl rfl ?_)
    | ((refine i_cons ?_); first
      | (refine k_call rfl (call18 (HK := HK) hk1 h0 w xs hw (by have := hx.1; omega) hx.2) ?_; rintro v h1 ⟨s1, rfl, q1, q2⟩)
      | refine k_skip rfl ?_
      | refine k_want rfl ?_
      | refine k_mv rfl ?_
      | refine k_pickT rfl rfl ?_
      | refine k_pickF rfl rfl ?_
      | refine k_notT rfl ?_
      | refine k_notF rfl ?_
      | refine k_add rfl rfl (by omega) ?_
      | refine k_sub rfl rfl (by omega) ?_
      | refine k_mul rfl rfl (by omega) ?_
      | refine k_neg rfl (by omega) ?_
      | refine k_quo rfl rfl (by omega) ?_
      | refine k_rem rfl rfl (by omega) ?_
      | refine k_conv rfl (by omega) ?_
      | refine k_max rfl rfl ?_
      | refine k_min rfl rfl ?_
      | refine k_lssT rfl rfl (by omega) ?_
      | refine k_lssF rfl rfl (by omega) ?_
      | refine k_lss rfl rfl (fun hc => ?_) (fun hc => ?_)
      | refine k_leqT rfl rfl (by omega) ?_
      | refine k_leqF rfl rfl (by omega) ?_
      | refine k_leq rfl rfl (fun hc => ?_) (fun hc => ?_)
      | refine k_gtrT rfl rfl (by omega) ?_
      | refine k_gtrF rfl rfl (by omega) ?_
      | refine k_gtr rfl rfl (fun hc => ?_) (fun hc => ?_)
      | refine k_geqT rfl rfl (by omega) ?_
      | refine k_geqF rfl rfl (by omega) ?_
      | refine k_geq rfl rfl (fun hc => ?_) (fun hc => ?_)
      | refine k_eqlT rfl rfl (by omega) ?_
      | refine k_eqlF rfl rfl (by omega) ?_
      | refine k_eql rfl rfl (fun hc => ?_) (fun hc => ?_)
      | refine k_neqT rfl rfl (by omega) ?_
      | refine k_neqF rfl rfl (by omega) ?_
      | refine k_neq rfl rfl (fun hc => ?_) (fun hc => ?_)
      | refine k_len rfl rfl ?_
      | refine k_ok rfl rfl ?_))
  refine w_loop (I21 h1 (red xs)) mu21 (R21 h1 (red xs) 24) ⟨red xs, s1, rfl, Nat.le_refl _, fun y hy => hy, q1, rfl, rfl⟩ (round22a h1 (red xs) (by omega) mr.2) ?_
  rintro ex E' h' ⟨rfl, rfl, s, hs, rfl⟩
  generalize core (red xs) = c at *
  have hr0 : rot c 0 = c := by simp [rot]
  have hstart : 0 < c.length → ∃ p, p < c.length ∧ c = rot c p ∧ ∀ q, q < 1 → q < c.length → lessL (rot c q) c = false := by
    intro h
    refine ⟨0, h, hr0.symm, fun q h1 h2 => ?_⟩
    obtain rfl : q = 0 := by omega
    rw [hr0]
    exact lessL_irr _
  repeat' (first
    | refine w_seq ?_
    | refine w_seqN ?_
    | refine w_seqX ?_
    | refine w_seqR ?_
    | refine w_blk ?_
    | refine w_blkN ?_
    | refine w_blkX ?_
    | refine w_blkR ?_
    | refine w_skip ?_
    | refine w_ret ?_
    | refine w_exit ?_
    | refine w_ops ?_
    | refine w_opsD ?_
    | refine d_one ?_
    | refine d_nil ?_
    | ((refine i_cond ?_); first | refine w_condT rfl ?_ | refine w_condF rfl ?_)
    | ((refine i_nil ?_); first | refine d_same ?_ | refine d_ord ?_ | refine d_ext ⟨_, rfl⟩ ?_ | refine d_ext (by assumption) ?_ | refine w_end0 ?_ | refine w_end1 rfl ?_ | refine w_end2 rfl rfl ?_ | refine w_end3 rfl rfl rfl ?_ | refine w_end4 rfl rfl rfl rfl ?_ | refine w_end5 rfl rfl rfl rfl rfl ?_ | refine w_end6 rfl rfl rfl rfl rfl rfl ?_ | refine w_end7 rfl rfl rfl rfl rfl rfl rfl ?_ | refine w_end8 rfl rfl rfl rfl rfl rfl rfl rfl ?_ | refine w_end9 rfl rfl rfl rfl rfl rfl rfl rfl rfl ?_ | refine w_end10 rfl rfl rfl rfl rfl rfl rfl rfl rfl rfl ?_ | refine w_end11 rfl rfl rfl rfl rfl rfl rfl rfl rfl rfl rfl ?_ | refine w_end12 rfl rfl rfl rfl rfl rfl rfl rfl rfl rfl rfl rfl ?_ | refine w_end13 rfl rfl rfl rfl rfl rfl rfl rfl rfl rfl rfl rfl rfl ?_ | refine w_end14 rfl rfl rfl rfl rfl rfl rfl rfl rfl rfl rfl rfl rfl rfl ?_ | refine w_end15 rfl rfl rfl rfl rfl rfl rfl rfl rfl rfl rfl rfl rfl rfl rfl ?_ | refine w_end16 rfl rfl rfl rfl rfl rfl rfl rfl rfl rfl rfl rfl rfl rfl rfl rfl ?_)
    | ((refine i_cons ?_); first
      | refine k_skip rfl ?_
      | refine k_want rfl ?_
      | refine k_mv rfl ?_
      | refine k_pickT rfl rfl ?_
      | refine k_pickF rfl rfl ?_
      | refine k_notT rfl ?_
      | refine k_notF rfl ?_
      | refine k_add rfl rfl (by omega) ?_
      | refine k_sub rfl rfl (by omega) ?_
      | refine k_mul rfl rfl (by omega) ?_
      | refine k_neg rfl (by omega) ?_
      | refine k_quo rfl rfl (by omega) ?_
      | refine k_rem rfl rfl (by omega) ?_
      | refine k_conv rfl (by omega) ?_
      | refine k_max rfl rfl ?_
      | refine k_min rfl rfl ?_
      | refine k_lssT rfl rfl (by omega) ?_
      | refine k_lssF rfl rfl (by omega) ?_
      | refine k_lss rfl rfl (fun hc => ?_) (fun hc => ?_)
      | refine k_leqT rfl rfl (by omega) ?_
      | refine k_leqF rfl rfl (by omega) ?_
      | refine k_leq rfl rfl (fun hc => ?_) (fun hc => ?_)
      | refine k_gtrT rfl rfl (by omega) ?_
      | refine k_gtrF rfl rfl (by omega) ?_
      | refine k_gtr rfl rfl (fun hc => ?_) (fun hc => ?_)
      | refine k_geqT rfl rfl (by omega) ?_
      | refine k_geqF rfl rfl (by omega) ?_
      | refine k_geq rfl rfl (fun hc => ?_) (fun hc => ?_)
      | refine k_eqlT rfl rfl (by omega) ?_
      | refine k_eqlF rfl rfl (by omega) ?_
      | refine k_eql rfl rfl (fun hc => ?_) (fun hc => ?_)
      | refine k_neqT rfl rfl (by omega) ?_
      | refine k_neqF rfl rfl (by omega) ?_
      | refine k_neq rfl rfl (fun hc => ?_) (fun hc => ?_)
      | refine k_len rfl rfl ?_
      | refine k_ok rfl rfl ?_))
  refine w_loop (I22 h' s c) (cnt c.length 5) (R22 h' s c) ⟨c, s, 1, Nat.le_refl _, .inr rfl, hs, Ext.refl _, rfl, hstart, rfl⟩ (round22 hk2 h' s c hs (by omega)) ?_
  rintro ex E' h2 ⟨rfl, b, t, i, ht, e2, hleast, rfl⟩
  have e3 : Ext h2 (h2 ++ [Blk.cells [] true 1]) := ⟨_, rfl⟩
  have hlb := hleast.len
  have hbd : (ints b).length * (8 + 1) ≤ bigN := by simp [bigN]; omega
  repeat' (first
    | refine w_seq ?_
    | refine w_seqN ?_
    | refine w_seqX ?_
    | refine w_seqR ?_
    | refine w_blk ?_
    | refine w_blkN ?_
    | refine w_blkX ?_
    | refine w_blkR ?_
    | refine w_skip ?_
    | refine w_ret ?_
    | refine w_exit ?_
    | refine w_ops ?_
    | refine w_opsD ?_
    | refine d_one ?_
    | refine d_nil ?_
    | ((refine i_cond ?_); first | refine w_condT rfl ?_ | refine w_condF rfl ?_)
    | ((refine i_nil ?_); first | refine d_same ?_ | refine d_ord ?_ | refine d_ext ⟨_, rfl⟩ ?_ | refine d_ext (by assumption) ?_ | refine w_end0 ?_ | refine w_end1 rfl ?_ | refine w_end2 rfl rfl ?_ | refine w_end3 rfl rfl rfl ?_ | refine w_end4 rfl rfl rfl rfl ?_ | refine w_end5 rfl rfl rfl rfl rfl ?_ | refine w_end6 rfl rfl rfl rfl rfl rfl ?_ | refine w_end7 rfl rfl rfl rfl rfl rfl rfl ?_ | refine w_end8 rfl rfl rfl rfl rfl rfl rfl rfl ?_ | refine w_end9 rfl rfl rfl rfl rfl rfl rfl rfl rfl ?_ | refine w_end10 rfl rfl rfl rfl rfl rfl rfl rfl rfl rfl ?_ | refine w_end11 rfl rfl rfl rfl rfl rfl rfl rfl rfl rfl rfl ?_ | refine w_end12 rfl rfl rfl rfl rfl rfl rfl rfl rfl rfl rfl rfl ?_ | refine w_end13 rfl rfl rfl rfl rfl rfl rfl rfl rfl rfl rfl rfl rfl ?_ | refine w_end14 rfl rfl rfl rfl rfl rfl rfl rfl rfl rfl rfl rfl rfl rfl ?_ | refine w_end15 rfl rfl rfl rfl rfl rfl rfl rfl rfl rfl rfl rfl rfl rfl rfl ?_ | refine w_end16 rfl rfl rfl rfl rfl rfl rfl rfl rfl rfl rfl rfl rfl rfl rfl rfl ?_)
    | ((refine i_cons ?_); first
      | (refine k_app0 e3 (Ab.Own.lit0 h2) rfl rfl (IsInts.src (IsSl.ext ht e3)) hbd ?_; intro s3 h4 u1 u2 u3)
      | refine k_skip rfl ?_
      | refine k_want rfl ?_
      | refine k_mv rfl ?_
      | refine k_pickT rfl rfl ?_
      | refine k_pickF rfl rfl ?_
      | refine k_notT rfl ?_
      | refine k_notF rfl ?_
      | refine k_add rfl rfl (by omega) ?_
      | refine k_sub rfl rfl (by omega) ?_
      | refine k_mul rfl rfl (by omega) ?_
      | refine k_neg rfl (by omega) ?_
      | refine k_quo rfl rfl (by omega) ?_
      | refine k_rem rfl rfl (by omega) ?_
      | refine k_conv rfl (by omega) ?_
      | refine k_max rfl rfl ?_
      | refine k_min rfl rfl ?_
      | refine k_lssT rfl rfl (by omega) ?_
      | refine k_lssF rfl rfl (by omega) ?_
      | refine k_lss rfl rfl (fun hc => ?_) (fun hc => ?_)
      | refine k_leqT rfl rfl (by omega) ?_
      | refine k_leqF rfl rfl (by omega) ?_
      | refine k_leq rfl rfl (fun hc => ?_) (fun hc => ?_)
      | refine k_gtrT rfl rfl (by omega) ?_
      | refine k_gtrF rfl rfl (by omega) ?_
      | refine k_gtr rfl rfl (fun hc => ?_) (fun hc => ?_)
      | refine k_geqT rfl rfl (by omega) ?_
      | refine k_geqF rfl rfl (by omega) ?_
      | refine k_geq rfl rfl (fun hc => ?_) (fun hc => ?_)
      | refine k_eqlT rfl rfl (by omega) ?_
      | refine k_eqlF rfl rfl (by omega) ?_
      | refine k_eql rfl rfl (fun hc => ?_) (fun hc => ?_)
      | refine k_neqT rfl rfl (by omega) ?_
      | refine k_neqF rfl rfl (by omega) ?_
      | refine k_neq rfl rfl (fun hc => ?_) (fun hc => ?_)
      | refine k_len rfl rfl ?_
      | refine k_ok rfl rfl ?_))
  exact ⟨.inr rfl, s3, b, rfl, Ab.Own.ids u1, q2.trans (e2.trans (e3.trans u2)), hleast⟩
end Go.Proofs.YtgmfjhmphiiifaaDoor
