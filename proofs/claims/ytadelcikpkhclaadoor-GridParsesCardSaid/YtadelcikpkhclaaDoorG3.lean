/- Contracts: both Valids. -/
import Derived.Test.YtadelcikpkhclaaDoorG2
namespace Go.Proofs.YtadelcikpkhclaaDoor
open Go.Ab
set_option linter.unusedVariables false
set_option maxRecDepth 20000
attribute [local irreducible] wOps wA wSeq wBlk wRound wOpsD
variable {HK : FuncId → Option Hook}

/-- No column has both marks in one row. -/
def Diff (xs os : List Int) : Prop := ∀ i < xs.length, xs[i]? ≠ os[i]?
instance (xs os : List Int) : Decidable (Diff xs os) := inferInstanceAs (Decidable (∀ i < xs.length, xs[i]? ≠ os[i]?))
def VG (xs os : List Int) : Prop := 2 ≤ xs.length ∧ xs.length ≤ 40 ∧ os.length = xs.length ∧ Diff xs os ∧ PermP xs ∧ PermP os
instance (xs os : List Int) : Decidable (VG xs os) := inferInstanceAs (Decidable (_ ∧ _))

/-- As RFind; and what the frame holds behind the loop. -/
def RFindK (h0 : Heap) (b : Bool) (p : Prop) (t : Nat) (k : Env → Prop) (ex : Ex) (E : Env) (h : Heap) : Prop := Ext h0 h ∧ match ex with
  | .rt => E = [(t, some (.sc (.bool b)))] ∧ p
  | .ex i => i = 0 ∧ ¬ p ∧ k E
  | .nm => False

def I13 (h0 : Heap) (id : Nat) (X O : SV) (xs os : List Int) (E : Env) (h : Heap) : Prop := ∃ i : Nat, i ≤ xs.length ∧ h = h0 ∧ (∀ k < i, xs[k]? ≠ os[k]?) ∧
  E = [(1, some (.sc (.ptr id 0))), (21, some (.sc (.int .i64 xs.length))), (22, some (.sc (.int .i64 i)))]
theorem diff_step {xs os : List Int} {i : Nat} (h : ∀ k < i, xs[k]? ≠ os[k]?) (hi : xs[i]? ≠ os[i]?) : ∀ k < i + 1, xs[k]? ≠ os[k]? := fun k hk => by
  by_cases e : k = i
  · subst e; exact hi
  · exact h k (by omega)

theorem round13 (h0 : Heap) (id : Nat) (X O : SV) (xs os : List Int) (hX : IsInts h0 X xs) (hO : IsInts h0 O os) (hb : Blk.At h0 id [X, O]) (hl : xs.length ≤ 1000000) (hlo : os.length = xs.length) (E : Env) (h : Heap) (hI : I13 h0 id X O xs os E h) :
    wA FT HK b13L0 (E.keep [1, 21, 22]) h (wRound (I13 h0 id X O xs os) (cnt xs.length 22) (cnt xs.length 22 E h) (RFindK h0 false (¬ Diff xs os) 2 fun E => ∃ a b c, E = [(1, some (.sc (.ptr id 0))), a, b, c])) := by
  obtain ⟨i, hi, rfl, hd, rfl⟩ := hI
  by_cases hlt : i < xs.length
  · obtain ⟨x, hx⟩ : ∃ x, xs[i]? = some x := ⟨_, List.getElem?_eq_getElem hlt⟩
    obtain ⟨y, hy⟩ : ∃ y, os[i]? = some y := ⟨_, List.getElem?_eq_getElem (by omega)⟩
    obtain ⟨ix, ox, cx, rfl, hrx⟩ := IsInts.at hX hx
    obtain ⟨iy, oy, cy, rfl, hry⟩ := IsInts.at hO hy
    repeat' (first
      | refine w_seq ?_
      | refine w_seqN ?_
      | refine w_seqX ?_
      | refine w_seqR ?_
      | refine w_blk ?_
      | refine w_blkN ?_
      | refine w_blkX ?_
      | refine w_blkR ?_
      | refine w_skip ?_
      | refine w_ret ?_
      | refine w_exit ?_
      | refine w_ops ?_
      | refine w_opsD ?_
      | refine d_one ?_
      | refine d_nil ?_
      | ((refine i_cond ?_); first | refine w_condT rfl ?_ | refine w_condF rfl ?_)
      | ((refine i_nil ?_); first | refine d_same ?_ | refine d_ord ?_ | refine d_ext ⟨_, rfl⟩ ?_ | refine d_ext (extA _ _ _) ?_ | refine d_ext (by assumption) ?_ | refine w_end0 ?_ | refine w_end1 rfl ?_ | refine w_end2 rfl rfl ?_ | refine w_end3 rfl rfl rfl ?_ | refine w_end4 rfl rfl rfl rfl ?_ | refine w_end5 rfl rfl rfl rfl rfl ?_ | refine w_end6 rfl rfl rfl rfl rfl rfl ?_ | refine w_end7 rfl rfl rfl rfl rfl rfl rfl ?_ | refine w_end8 rfl rfl rfl rfl rfl rfl rfl rfl ?_ | refine w_end9 rfl rfl rfl rfl rfl rfl rfl rfl rfl ?_ | refine w_end10 rfl rfl rfl rfl rfl rfl rfl rfl rfl rfl ?_ | refine w_end11 rfl rfl rfl rfl rfl rfl rfl rfl rfl rfl rfl ?_ | refine w_end12 rfl rfl rfl rfl rfl rfl rfl rfl rfl rfl rfl rfl ?_ | refine w_end13 rfl rfl rfl rfl rfl rfl rfl rfl rfl rfl rfl rfl rfl ?_ | refine w_end14 rfl rfl rfl rfl rfl rfl rfl rfl rfl rfl rfl rfl rfl rfl ?_ | refine w_end15 rfl rfl rfl rfl rfl rfl rfl rfl rfl rfl rfl rfl rfl rfl rfl ?_ | refine w_end16 rfl rfl rfl rfl rfl rfl rfl rfl rfl rfl rfl rfl rfl rfl rfl rfl ?_)
      | ((refine i_cons ?_); first
        | refine k_ldb rfl hb rfl ?_
        | refine k_idxA rfl rfl (by omega) ?_
        | refine k_ld rfl hrx ?_
        | refine k_ld rfl hry ?_
        | refine k_skip rfl ?_
        | refine k_skipU rfl ?_
        | refine k_want rfl ?_
        | refine k_mv rfl ?_
        | refine k_pickT rfl rfl ?_
        | refine k_pickF rfl rfl ?_
        | refine k_notT rfl ?_
        | refine k_notF rfl ?_
        | refine k_add rfl rfl (by omega) ?_
        | refine k_sub rfl rfl (by omega) ?_
        | refine k_mul rfl rfl (by omega) ?_
        | refine k_neg rfl (by omega) ?_
        | refine k_quo rfl rfl (by omega) ?_
        | refine k_rem rfl rfl (by omega) ?_
        | refine k_conv rfl (by omega) ?_
        | refine k_max rfl rfl ?_
        | refine k_min rfl rfl ?_
        | refine k_lssT rfl rfl (by omega) ?_
        | refine k_lssF rfl rfl (by omega) ?_
        | refine k_lss rfl rfl (fun hc => ?_) (fun hc => ?_)
        | refine k_leqT rfl rfl (by omega) ?_
        | refine k_leqF rfl rfl (by omega) ?_
        | refine k_leq rfl rfl (fun hc => ?_) (fun hc => ?_)
        | refine k_gtrT rfl rfl (by omega) ?_
        | refine k_gtrF rfl rfl (by omega) ?_
        | refine k_gtr rfl rfl (fun hc => ?_) (fun hc => ?_)
        | refine k_geqT rfl rfl (by omega) ?_
        | refine k_geqF rfl rfl (by omega) ?_
        | refine k_geq rfl rfl (fun hc => ?_) (fun hc => ?_)
        | refine k_eqlT rfl rfl (by omega) ?_
        | refine k_eqlF rfl rfl (by omega) ?_
        | refine k_eql rfl rfl (fun hc => ?_) (fun hc => ?_)
        | refine k_neqT rfl rfl (by omega) ?_
        | refine k_neqF rfl rfl (by omega) ?_
        | refine k_neq rfl rfl (fun hc => ?_) (fun hc => ?_)
        | refine k_len rfl rfl ?_
        | refine k_ok rfl rfl ?_))
    · exact w_roundR ⟨Ext.refl _, rfl, fun hD => hD i hlt (by rw [hx, hy, hc])⟩
    · exact w_roundN ⟨i + 1, by omega, rfl, diff_step hd (by rw [hx, hy]; simpa using hc), rfl⟩ (by simp [cnt, Env.get]; omega)
  · repeat' (first
   | refine w_seq ?_
   | refine w_seqN ?_
   | refine w_seqX ?_
   | refine w_seqR ?_
   | refine w_blk ?_
   | refine w_blkN ?_
   | refine w_blkX ?_
   | refine w_blkR ?_
   | refine w_skip ?_
   | refine w_ret ?_
   | refine w_exit ?_
   | refine w_ops ?_
   | refine w_opsD ?_
   | refine d_one ?_
   | refine d_nil ?_
   | ((refine i_cond ?_); first | refine w_condT rfl ?_ | refine w_condF rfl ?_)
   | ((refine i_nil ?_); first | refine d_same ?_ | refine d_ord ?_ | refine d_ext ⟨_, rfl⟩ ?_ | refine d_ext (extA _ _ _) ?_ | refine d_ext (by assumption) ?_ | refine w_end0 ?_ | refine w_end1 rfl ?_ | refine w_end2 rfl rfl ?_ | refine w_end3 rfl rfl rfl ?_ | refine w_end4 rfl rfl rfl rfl ?_ | refine w_end5 rfl rfl rfl rfl rfl ?_ | refine w_end6 rfl rfl rfl rfl rfl rfl ?_ | refine w_end7 rfl rfl rfl rfl rfl rfl rfl ?_ | refine w_end8 rfl rfl rfl rfl rfl rfl rfl rfl ?_ | refine w_end9 rfl rfl rfl rfl rfl rfl rfl rfl rfl ?_ | refine w_end10 rfl rfl rfl rfl rfl rfl rfl rfl rfl rfl ?_ | refine w_end11 rfl rfl rfl rfl rfl rfl rfl rfl rfl rfl rfl ?_ | refine w_end12 rfl rfl rfl rfl rfl rfl rfl rfl rfl rfl rfl rfl ?_ | refine w_end13 rfl rfl rfl rfl rfl rfl rfl rfl rfl rfl rfl rfl rfl ?_ | refine w_end14 rfl rfl rfl rfl rfl rfl rfl rfl rfl rfl rfl rfl rfl rfl ?_ | refine w_end15 rfl rfl rfl rfl rfl rfl rfl rfl rfl rfl rfl rfl rfl rfl rfl ?_ | refine w_end16 rfl rfl rfl rfl rfl rfl rfl rfl rfl rfl rfl rfl rfl rfl rfl rfl ?_)
   | ((refine i_cons ?_); first
     | refine k_skip rfl ?_
     | refine k_skipU rfl ?_
     | refine k_want rfl ?_
     | refine k_mv rfl ?_
     | refine k_pickT rfl rfl ?_
     | refine k_pickF rfl rfl ?_
     | refine k_notT rfl ?_
     | refine k_notF rfl ?_
     | refine k_add rfl rfl (by omega) ?_
     | refine k_sub rfl rfl (by omega) ?_
     | refine k_mul rfl rfl (by omega) ?_
     | refine k_neg rfl (by omega) ?_
     | refine k_quo rfl rfl (by omega) ?_
     | refine k_rem rfl rfl (by omega) ?_
     | refine k_conv rfl (by omega) ?_
     | refine k_max rfl rfl ?_
     | refine k_min rfl rfl ?_
     | refine k_lssT rfl rfl (by omega) ?_
     | refine k_lssF rfl rfl (by omega) ?_
     | refine k_lss rfl rfl (fun hc => ?_) (fun hc => ?_)
     | refine k_leqT rfl rfl (by omega) ?_
     | refine k_leqF rfl rfl (by omega) ?_
     | refine k_leq rfl rfl (fun hc => ?_) (fun hc => ?_)
     | refine k_gtrT rfl rfl (by omega) ?_
     | refine k_gtrF rfl rfl (by omega) ?_
     | refine k_gtr rfl rfl (fun hc => ?_) (fun hc => ?_)
     | refine k_geqT rfl rfl (by omega) ?_
     | refine k_geqF rfl rfl (by omega) ?_
     | refine k_geq rfl rfl (fun hc => ?_) (fun hc => ?_)
     | refine k_eqlT rfl rfl (by omega) ?_
     | refine k_eqlF rfl rfl (by omega) ?_
     | refine k_eql rfl rfl (fun hc => ?_) (fun hc => ?_)
     | refine k_neqT rfl rfl (by omega) ?_
     | refine k_neqF rfl rfl (by omega) ?_
     | refine k_neq rfl rfl (fun hc => ?_) (fun hc => ?_)
     | refine k_len rfl rfl ?_
     | refine k_ok rfl rfl ?_))
    exact w_roundX ⟨Ext.refl _, rfl, fun hc => hc fun k hk => hd k (by omega), _, _, _, rfl⟩

theorem call13 (hk : HK 13 = none) (hk2 : HK 34 = none) (h0 : Heap) (X O : SV) (xs os : List Int) (hX : IsInts h0 X xs) (hO : IsInts h0 O os) :
    ∃ v h', Cal FT HK 13 [.agg [X, O]] h0 v h' ∧ Ext h0 h' ∧ v = .sc (.bool (decide (VG xs os))) := by
  refine Cal.of (F := a13) hk rfl rfl ?_
  have hl1 := IsSl.len hX
  have hl2 := IsSl.len hO
  by_cases c0 : 2 ≤ xs.length ∧ xs.length ≤ 40 ∧ os.length = xs.length
  · obtain ⟨c1, c2, c3⟩ := c0
    repeat' (first
      | refine w_seq ?_
      | refine w_seqN ?_
      | refine w_seqX ?_
      | refine w_seqR ?_
      | refine w_blk ?_
      | refine w_blkN ?_
      | refine w_blkX ?_
      | refine w_blkR ?_
      | refine w_skip ?_
      | refine w_ret ?_
      | refine w_exit ?_
      | refine w_ops ?_
      | refine w_opsD ?_
      | refine d_one ?_
      | refine d_nil ?_
      | ((refine i_cond ?_); first | refine w_condT rfl ?_ | refine w_condF rfl ?_)
      | ((refine i_nil ?_); first | refine d_same ?_ | refine d_ord ?_ | refine d_ext ⟨_, rfl⟩ ?_ | refine d_ext (extA _ _ _) ?_ | refine d_ext (by assumption) ?_ | refine w_end0 ?_ | refine w_end1 rfl ?_ | refine w_end2 rfl rfl ?_ | refine w_end3 rfl rfl rfl ?_ | refine w_end4 rfl rfl rfl rfl ?_ | refine w_end5 rfl rfl rfl rfl rfl ?_ | refine w_end6 rfl rfl rfl rfl rfl rfl ?_ | refine w_end7 rfl rfl rfl rfl rfl rfl rfl ?_ | refine w_end8 rfl rfl rfl rfl rfl rfl rfl rfl ?_ | refine w_end9 rfl rfl rfl rfl rfl rfl rfl rfl rfl ?_ | refine w_end10 rfl rfl rfl rfl rfl rfl rfl rfl rfl rfl ?_ | refine w_end11 rfl rfl rfl rfl rfl rfl rfl rfl rfl rfl rfl ?_ | refine w_end12 rfl rfl rfl rfl rfl rfl rfl rfl rfl rfl rfl rfl ?_ | refine w_end13 rfl rfl rfl rfl rfl rfl rfl rfl rfl rfl rfl rfl rfl ?_ | refine w_end14 rfl rfl rfl rfl rfl rfl rfl rfl rfl rfl rfl rfl rfl rfl ?_ | refine w_end15 rfl rfl rfl rfl rfl rfl rfl rfl rfl rfl rfl rfl rfl rfl rfl ?_ | refine w_end16 rfl rfl rfl rfl rfl rfl rfl rfl rfl rfl rfl rfl rfl rfl rfl rfl ?_)
      | ((refine i_cons ?_); first
        | (refine k_box rfl rfl ?_; intro h1 e1 l1 b1)
        | refine k_ldb rfl b1 rfl ?_
        | refine k_len rfl hl1 ?_
        | refine k_len rfl hl2 ?_
        | refine k_skip rfl ?_
        | refine k_skipU rfl ?_
        | refine k_want rfl ?_
        | refine k_mv rfl ?_
        | refine k_pickT rfl rfl ?_
        | refine k_pickF rfl rfl ?_
        | refine k_notT rfl ?_
        | refine k_notF rfl ?_
        | refine k_add rfl rfl (by omega) ?_
        | refine k_sub rfl rfl (by omega) ?_
        | refine k_mul rfl rfl (by omega) ?_
        | refine k_neg rfl (by omega) ?_
        | refine k_quo rfl rfl (by omega) ?_
        | refine k_rem rfl rfl (by omega) ?_
        | refine k_conv rfl (by omega) ?_
        | refine k_max rfl rfl ?_
        | refine k_min rfl rfl ?_
        | refine k_lssT rfl rfl (by omega) ?_
        | refine k_lssF rfl rfl (by omega) ?_
        | refine k_lss rfl rfl (fun hc => ?_) (fun hc => ?_)
        | refine k_leqT rfl rfl (by omega) ?_
        | refine k_leqF rfl rfl (by omega) ?_
        | refine k_leq rfl rfl (fun hc => ?_) (fun hc => ?_)
        | refine k_gtrT rfl rfl (by omega) ?_
        | refine k_gtrF rfl rfl (by omega) ?_
        | refine k_gtr rfl rfl (fun hc => ?_) (fun hc => ?_)
        | refine k_geqT rfl rfl (by omega) ?_
        | refine k_geqF rfl rfl (by omega) ?_
        | refine k_geq rfl rfl (fun hc => ?_) (fun hc => ?_)
        | refine k_eqlT rfl rfl (by omega) ?_
        | refine k_eqlF rfl rfl (by omega) ?_
        | refine k_eql rfl rfl (fun hc => ?_) (fun hc => ?_)
        | refine k_neqT rfl rfl (by omega) ?_
        | refine k_neqF rfl rfl (by omega) ?_
        | refine k_neq rfl rfl (fun hc => ?_) (fun hc => ?_)
        | refine k_len rfl rfl ?_
        | refine k_ok rfl rfl ?_))
    refine w_loop (I13 h1 h0.length X O xs os) (cnt xs.length 22) (RFindK h1 false (¬ Diff xs os) 2 fun E => ∃ a b c, E = [(1, some (.sc (.ptr h0.length 0))), a, b, c]) ⟨0, Nat.zero_le _, rfl, fun k hk => by omega, rfl⟩ (round13 h1 h0.length X O xs os (IsSl.ext hX e1) (IsSl.ext hO e1) b1 (by omega) c3) ?_
    rintro ex E' h2 ⟨e2, hR⟩
    cases ex with
    | nm => exact hR.elim
    | rt =>
      obtain ⟨rfl, hp⟩ := hR
      repeat' (first
        | refine w_seq ?_
        | refine w_seqN ?_
        | refine w_seqX ?_
        | refine w_seqR ?_
        | refine w_blk ?_
        | refine w_blkN ?_
        | refine w_blkX ?_
        | refine w_blkR ?_
        | refine w_skip ?_
        | refine w_ret ?_
        | refine w_exit ?_
        | refine w_ops ?_
        | refine w_opsD ?_
        | refine d_one ?_
        | refine d_nil ?_
        | ((refine i_cond ?_); first | refine w_condT rfl ?_ | refine w_condF rfl ?_)
        | ((refine i_nil ?_); first | refine d_same ?_ | refine d_ord ?_ | refine d_ext ⟨_, rfl⟩ ?_ | refine d_ext (extA _ _ _) ?_ | refine d_ext (by assumption) ?_ | refine w_end0 ?_ | refine w_end1 rfl ?_ | refine w_end2 rfl rfl ?_ | refine w_end3 rfl rfl rfl ?_ | refine w_end4 rfl rfl rfl rfl ?_ | refine w_end5 rfl rfl rfl rfl rfl ?_ | refine w_end6 rfl rfl rfl rfl rfl rfl ?_ | refine w_end7 rfl rfl rfl rfl rfl rfl rfl ?_ | refine w_end8 rfl rfl rfl rfl rfl rfl rfl rfl ?_ | refine w_end9 rfl rfl rfl rfl rfl rfl rfl rfl rfl ?_ | refine w_end10 rfl rfl rfl rfl rfl rfl rfl rfl rfl rfl ?_ | refine w_end11 rfl rfl rfl rfl rfl rfl rfl rfl rfl rfl rfl ?_ | refine w_end12 rfl rfl rfl rfl rfl rfl rfl rfl rfl rfl rfl rfl ?_ | refine w_end13 rfl rfl rfl rfl rfl rfl rfl rfl rfl rfl rfl rfl rfl ?_ | refine w_end14 rfl rfl rfl rfl rfl rfl rfl rfl rfl rfl rfl rfl rfl rfl ?_ | refine w_end15 rfl rfl rfl rfl rfl rfl rfl rfl rfl rfl rfl rfl rfl rfl rfl ?_ | refine w_end16 rfl rfl rfl rfl rfl rfl rfl rfl rfl rfl rfl rfl rfl rfl rfl rfl ?_)
        | ((refine i_cons ?_); first
          | refine k_skip rfl ?_
          | refine k_skipU rfl ?_
          | refine k_want rfl ?_
          | refine k_mv rfl ?_
          | refine k_pickT rfl rfl ?_
          | refine k_pickF rfl rfl ?_
          | refine k_notT rfl ?_
          | refine k_notF rfl ?_
          | refine k_add rfl rfl (by omega) ?_
          | refine k_sub rfl rfl (by omega) ?_
          | refine k_mul rfl rfl (by omega) ?_
          | refine k_neg rfl (by omega) ?_
          | refine k_quo rfl rfl (by omega) ?_
          | refine k_rem rfl rfl (by omega) ?_
          | refine k_conv rfl (by omega) ?_
          | refine k_max rfl rfl ?_
          | refine k_min rfl rfl ?_
          | refine k_lssT rfl rfl (by omega) ?_
          | refine k_lssF rfl rfl (by omega) ?_
          | refine k_lss rfl rfl (fun hc => ?_) (fun hc => ?_)
          | refine k_leqT rfl rfl (by omega) ?_
          | refine k_leqF rfl rfl (by omega) ?_
          | refine k_leq rfl rfl (fun hc => ?_) (fun hc => ?_)
          | refine k_gtrT rfl rfl (by omega) ?_
          | refine k_gtrF rfl rfl (by omega) ?_
          | refine k_gtr rfl rfl (fun hc => ?_) (fun hc => ?_)
          | refine k_geqT rfl rfl (by omega) ?_
          | refine k_geqF rfl rfl (by omega) ?_
          | refine k_geq rfl rfl (fun hc => ?_) (fun hc => ?_)
          | refine k_eqlT rfl rfl (by omega) ?_
          | refine k_eqlF rfl rfl (by omega) ?_
          | refine k_eql rfl rfl (fun hc => ?_) (fun hc => ?_)
          | refine k_neqT rfl rfl (by omega) ?_
          | refine k_neqF rfl rfl (by omega) ?_
          | refine k_neq rfl rfl (fun hc => ?_) (fun hc => ?_)
          | refine k_len rfl rfl ?_
          | refine k_ok rfl rfl ?_))
      exact ⟨.inr rfl, e1.trans e2, by rw [decide_eq_false fun hv => hp hv.2.2.2.1]; rfl⟩
    | ex i =>
      obtain ⟨rfl, hp, _, _, _, rfl⟩ := hR
      have hp := Classical.not_not.1 hp
      have b2 := Blk.At.ext b1 e2
      have e12 := e1.trans e2
      have k1 := call34 (HK := HK) hk2 h2 X xs (IsSl.ext hX e12) (by omega)
      by_cases p1 : PermP xs
      · rw [decide_eq_true p1] at k1
        repeat' (first
          | refine w_seq ?_
          | refine w_seqN ?_
          | refine w_seqX ?_
          | refine w_seqR ?_
          | refine w_blk ?_
          | refine w_blkN ?_
          | refine w_blkX ?_
          | refine w_blkR ?_
          | refine w_skip ?_
          | refine w_ret ?_
          | refine w_exit ?_
          | refine w_ops ?_
          | refine w_opsD ?_
          | refine d_one ?_
          | refine d_nil ?_
          | ((refine i_cond ?_); first | refine w_condT rfl ?_ | refine w_condF rfl ?_)
          | ((refine i_nil ?_); first | refine d_same ?_ | refine d_ord ?_ | refine d_ext ⟨_, rfl⟩ ?_ | refine d_ext (extA _ _ _) ?_ | refine d_ext (by assumption) ?_ | refine w_end0 ?_ | refine w_end1 rfl ?_ | refine w_end2 rfl rfl ?_ | refine w_end3 rfl rfl rfl ?_ | refine w_end4 rfl rfl rfl rfl ?_ | refine w_end5 rfl rfl rfl rfl rfl ?_ | refine w_end6 rfl rfl rfl rfl rfl rfl ?_ | refine w_end7 rfl rfl rfl rfl rfl rfl rfl ?_ | refine w_end8 rfl rfl rfl rfl rfl rfl rfl rfl ?_ | refine w_end9 rfl rfl rfl rfl rfl rfl rfl rfl rfl ?_ | refine w_end10 rfl rfl rfl rfl rfl rfl rfl rfl rfl rfl ?_ | refine w_end11 rfl rfl rfl rfl rfl rfl rfl rfl rfl rfl rfl ?_ | refine w_end12 rfl rfl rfl rfl rfl rfl rfl rfl rfl rfl rfl rfl ?_ | refine w_end13 rfl rfl rfl rfl rfl rfl rfl rfl rfl rfl rfl rfl rfl ?_ | refine w_end14 rfl rfl rfl rfl rfl rfl rfl rfl rfl rfl rfl rfl rfl rfl ?_ | refine w_end15 rfl rfl rfl rfl rfl rfl rfl rfl rfl rfl rfl rfl rfl rfl rfl ?_ | refine w_end16 rfl rfl rfl rfl rfl rfl rfl rfl rfl rfl rfl rfl rfl rfl rfl rfl ?_)
          | ((refine i_cons ?_); first
            | refine k_ldb rfl b2 rfl ?_
            | (refine k_call rfl k1 ?_; rintro v h3 ⟨e3, rfl⟩)
            | refine k_skip rfl ?_
            | refine k_skipU rfl ?_
            | refine k_want rfl ?_
            | refine k_mv rfl ?_
            | refine k_pickT rfl rfl ?_
            | refine k_pickF rfl rfl ?_
            | refine k_notT rfl ?_
            | refine k_notF rfl ?_
            | refine k_add rfl rfl (by omega) ?_
            | refine k_sub rfl rfl (by omega) ?_
            | refine k_mul rfl rfl (by omega) ?_
            | refine k_neg rfl (by omega) ?_
            | refine k_quo rfl rfl (by omega) ?_
            | refine k_rem rfl rfl (by omega) ?_
            | refine k_conv rfl (by omega) ?_
            | refine k_max rfl rfl ?_
            | refine k_min rfl rfl ?_
            | refine k_lssT rfl rfl (by omega) ?_
            | refine k_lssF rfl rfl (by omega) ?_
            | refine k_lss rfl rfl (fun hc => ?_) (fun hc => ?_)
            | refine k_leqT rfl rfl (by omega) ?_
            | refine k_leqF rfl rfl (by omega) ?_
            | refine k_leq rfl rfl (fun hc => ?_) (fun hc => ?_)
            | refine k_gtrT rfl rfl (by omega) ?_
            | refine k_gtrF rfl rfl (by omega) ?_
            | refine k_gtr rfl rfl (fun hc => ?_) (fun hc => ?_)
            | refine k_geqT rfl rfl (by omega) ?_
            | refine k_geqF rfl rfl (by omega) ?_
            | refine k_geq rfl rfl (fun hc => ?_) (fun hc => ?_)
            | refine k_eqlT rfl rfl (by omega) ?_
            | refine k_eqlF rfl rfl (by omega) ?_
            | refine k_eql rfl rfl (fun hc => ?_) (fun hc => ?_)
            | refine k_neqT rfl rfl (by omega) ?_
            | refine k_neqF rfl rfl (by omega) ?_
            | refine k_neq rfl rfl (fun hc => ?_) (fun hc => ?_)
            | refine k_len rfl rfl ?_
            | refine k_ok rfl rfl ?_))
        have b3 := Blk.At.ext b2 e3
        have k2 := call34 (HK := HK) hk2 h3 O os (IsSl.ext hO (e12.trans e3)) (by omega)
        have hv : decide (PermP os) = decide (VG xs os) := decide_eq_decide.2 ⟨fun h => ⟨c1, c2, c3, hp, p1, h⟩, fun h => h.2.2.2.2.2⟩
        rw [hv] at k2
        repeat' (first
          | refine w_seq ?_
          | refine w_seqN ?_
          | refine w_seqX ?_
          | refine w_seqR ?_
          | refine w_blk ?_
          | refine w_blkN ?_
          | refine w_blkX ?_
          | refine w_blkR ?_
          | refine w_skip ?_
          | refine w_ret ?_
          | refine w_exit ?_
          | refine w_ops ?_
          | refine w_opsD ?_
          | refine d_one ?_
          | refine d_nil ?_
          | ((refine i_cond ?_); first | refine w_condT rfl ?_ | refine w_condF rfl ?_)
          | ((refine i_nil ?_); first | refine d_same ?_ | refine d_ord ?_ | refine d_ext ⟨_, rfl⟩ ?_ | refine d_ext (extA _ _ _) ?_ | refine d_ext (by assumption) ?_ | refine w_end0 ?_ | refine w_end1 rfl ?_ | refine w_end2 rfl rfl ?_ | refine w_end3 rfl rfl rfl ?_ | refine w_end4 rfl rfl rfl rfl ?_ | refine w_end5 rfl rfl rfl rfl rfl ?_ | refine w_end6 rfl rfl rfl rfl rfl rfl ?_ | refine w_end7 rfl rfl rfl rfl rfl rfl rfl ?_ | refine w_end8 rfl rfl rfl rfl rfl rfl rfl rfl ?_ | refine w_end9 rfl rfl rfl rfl rfl rfl rfl rfl rfl ?_ | refine w_end10 rfl rfl rfl rfl rfl rfl rfl rfl rfl rfl ?_ | refine w_end11 rfl rfl rfl rfl rfl rfl rfl rfl rfl rfl rfl ?_ | refine w_end12 rfl rfl rfl rfl rfl rfl rfl rfl rfl rfl rfl rfl ?_ | refine w_end13 rfl rfl rfl rfl rfl rfl rfl rfl rfl rfl rfl rfl rfl ?_ | refine w_end14 rfl rfl rfl rfl rfl rfl rfl rfl rfl rfl rfl rfl rfl rfl ?_ | refine w_end15 rfl rfl rfl rfl rfl rfl rfl rfl rfl rfl rfl rfl rfl rfl rfl ?_ | refine w_end16 rfl rfl rfl rfl rfl rfl rfl rfl rfl rfl rfl rfl rfl rfl rfl rfl ?_)
          | ((refine i_cons ?_); first
            | refine k_ldb rfl b3 rfl ?_
            | (refine k_call rfl k2 ?_; rintro v h4 ⟨e4, rfl⟩)
            | refine k_skip rfl ?_
            | refine k_skipU rfl ?_
            | refine k_want rfl ?_
            | refine k_mv rfl ?_
            | refine k_pickT rfl rfl ?_
            | refine k_pickF rfl rfl ?_
            | refine k_notT rfl ?_
            | refine k_notF rfl ?_
            | refine k_add rfl rfl (by omega) ?_
            | refine k_sub rfl rfl (by omega) ?_
            | refine k_mul rfl rfl (by omega) ?_
            | refine k_neg rfl (by omega) ?_
            | refine k_quo rfl rfl (by omega) ?_
            | refine k_rem rfl rfl (by omega) ?_
            | refine k_conv rfl (by omega) ?_
            | refine k_max rfl rfl ?_
            | refine k_min rfl rfl ?_
            | refine k_lssT rfl rfl (by omega) ?_
            | refine k_lssF rfl rfl (by omega) ?_
            | refine k_lss rfl rfl (fun hc => ?_) (fun hc => ?_)
            | refine k_leqT rfl rfl (by omega) ?_
            | refine k_leqF rfl rfl (by omega) ?_
            | refine k_leq rfl rfl (fun hc => ?_) (fun hc => ?_)
            | refine k_gtrT rfl rfl (by omega) ?_
            | refine k_gtrF rfl rfl (by omega) ?_
            | refine k_gtr rfl rfl (fun hc => ?_) (fun hc => ?_)
            | refine k_geqT rfl rfl (by omega) ?_
            | refine k_geqF rfl rfl (by omega) ?_
            | refine k_geq rfl rfl (fun hc => ?_) (fun hc => ?_)
            | refine k_eqlT rfl rfl (by omega) ?_
            | refine k_eqlF rfl rfl (by omega) ?_
            | refine k_eql rfl rfl (fun hc => ?_) (fun hc => ?_)
            | refine k_neqT rfl rfl (by omega) ?_
            | refine k_neqF rfl rfl (by omega) ?_
            | refine k_neq rfl rfl (fun hc => ?_) (fun hc => ?_)
            | refine k_len rfl rfl ?_
            | refine k_ok rfl rfl ?_))
        exact ⟨.inr rfl, e12.trans (e3.trans e4), rfl⟩
      · rw [decide_eq_false p1] at k1
        repeat' (first
          | refine w_seq ?_
          | refine w_seqN ?_
          | refine w_seqX ?_
          | refine w_seqR ?_
          | refine w_blk ?_
          | refine w_blkN ?_
          | refine w_blkX ?_
          | refine w_blkR ?_
          | refine w_skip ?_
          | refine w_ret ?_
          | refine w_exit ?_
          | refine w_ops ?_
          | refine w_opsD ?_
          | refine d_one ?_
          | refine d_nil ?_
          | ((refine i_cond ?_); first | refine w_condT rfl ?_ | refine w_condF rfl ?_)
          | ((refine i_nil ?_); first | refine d_same ?_ | refine d_ord ?_ | refine d_ext ⟨_, rfl⟩ ?_ | refine d_ext (extA _ _ _) ?_ | refine d_ext (by assumption) ?_ | refine w_end0 ?_ | refine w_end1 rfl ?_ | refine w_end2 rfl rfl ?_ | refine w_end3 rfl rfl rfl ?_ | refine w_end4 rfl rfl rfl rfl ?_ | refine w_end5 rfl rfl rfl rfl rfl ?_ | refine w_end6 rfl rfl rfl rfl rfl rfl ?_ | refine w_end7 rfl rfl rfl rfl rfl rfl rfl ?_ | refine w_end8 rfl rfl rfl rfl rfl rfl rfl rfl ?_ | refine w_end9 rfl rfl rfl rfl rfl rfl rfl rfl rfl ?_ | refine w_end10 rfl rfl rfl rfl rfl rfl rfl rfl rfl rfl ?_ | refine w_end11 rfl rfl rfl rfl rfl rfl rfl rfl rfl rfl rfl ?_ | refine w_end12 rfl rfl rfl rfl rfl rfl rfl rfl rfl rfl rfl rfl ?_ | refine w_end13 rfl rfl rfl rfl rfl rfl rfl rfl rfl rfl rfl rfl rfl ?_ | refine w_end14 rfl rfl rfl rfl rfl rfl rfl rfl rfl rfl rfl rfl rfl rfl ?_ | refine w_end15 rfl rfl rfl rfl rfl rfl rfl rfl rfl rfl rfl rfl rfl rfl rfl ?_ | refine w_end16 rfl rfl rfl rfl rfl rfl rfl rfl rfl rfl rfl rfl rfl rfl rfl rfl ?_)
          | ((refine i_cons ?_); first
            | refine k_ldb rfl b2 rfl ?_
            | (refine k_call rfl k1 ?_; rintro v h3 ⟨e3, rfl⟩)
            | refine k_skip rfl ?_
            | refine k_skipU rfl ?_
            | refine k_want rfl ?_
            | refine k_mv rfl ?_
            | refine k_pickT rfl rfl ?_
            | refine k_pickF rfl rfl ?_
            | refine k_notT rfl ?_
            | refine k_notF rfl ?_
            | refine k_add rfl rfl (by omega) ?_
            | refine k_sub rfl rfl (by omega) ?_
            | refine k_mul rfl rfl (by omega) ?_
            | refine k_neg rfl (by omega) ?_
            | refine k_quo rfl rfl (by omega) ?_
            | refine k_rem rfl rfl (by omega) ?_
            | refine k_conv rfl (by omega) ?_
            | refine k_max rfl rfl ?_
            | refine k_min rfl rfl ?_
            | refine k_lssT rfl rfl (by omega) ?_
            | refine k_lssF rfl rfl (by omega) ?_
            | refine k_lss rfl rfl (fun hc => ?_) (fun hc => ?_)
            | refine k_leqT rfl rfl (by omega) ?_
            | refine k_leqF rfl rfl (by omega) ?_
            | refine k_leq rfl rfl (fun hc => ?_) (fun hc => ?_)
            | refine k_gtrT rfl rfl (by omega) ?_
            | refine k_gtrF rfl rfl (by omega) ?_
            | refine k_gtr rfl rfl (fun hc => ?_) (fun hc => ?_)
            | refine k_geqT rfl rfl (by omega) ?_
            | refine k_geqF rfl rfl (by omega) ?_
            | refine k_geq rfl rfl (fun hc => ?_) (fun hc => ?_)
            | refine k_eqlT rfl rfl (by omega) ?_
            | refine k_eqlF rfl rfl (by omega) ?_
            | refine k_eql rfl rfl (fun hc => ?_) (fun hc => ?_)
            | refine k_neqT rfl rfl (by omega) ?_
            | refine k_neqF rfl rfl (by omega) ?_
            | refine k_neq rfl rfl (fun hc => ?_) (fun hc => ?_)
            | refine k_len rfl rfl ?_
            | refine k_ok rfl rfl ?_))
        exact ⟨.inr rfl, e12.trans e3, by rw [decide_eq_false fun hv => p1 hv.2.2.2.2.1]; rfl⟩
  · have hv : ¬ VG xs os := fun hv => c0 ⟨hv.1, hv.2.1, hv.2.2.1⟩
    rw [decide_eq_false hv]
    repeat' (first
      | refine w_seq ?_
      | refine w_seqN ?_
      | refine w_seqX ?_
      | refine w_seqR ?_
      | refine w_blk ?_
      | refine w_blkN ?_
      | refine w_blkX ?_
      | refine w_blkR ?_
      | refine w_skip ?_
      | refine w_ret ?_
      | refine w_exit ?_
      | refine w_ops ?_
      | refine w_opsD ?_
      | refine d_one ?_
      | refine d_nil ?_
      | ((refine i_cond ?_); first | refine w_condT rfl ?_ | refine w_condF rfl ?_)
      | ((refine i_nil ?_); first | refine d_same ?_ | refine d_ord ?_ | refine d_ext ⟨_, rfl⟩ ?_ | refine d_ext (extA _ _ _) ?_ | refine d_ext (by assumption) ?_ | refine w_end0 ?_ | refine w_end1 rfl ?_ | refine w_end2 rfl rfl ?_ | refine w_end3 rfl rfl rfl ?_ | refine w_end4 rfl rfl rfl rfl ?_ | refine w_end5 rfl rfl rfl rfl rfl ?_ | refine w_end6 rfl rfl rfl rfl rfl rfl ?_ | refine w_end7 rfl rfl rfl rfl rfl rfl rfl ?_ | refine w_end8 rfl rfl rfl rfl rfl rfl rfl rfl ?_ | refine w_end9 rfl rfl rfl rfl rfl rfl rfl rfl rfl ?_ | refine w_end10 rfl rfl rfl rfl rfl rfl rfl rfl rfl rfl ?_ | refine w_end11 rfl rfl rfl rfl rfl rfl rfl rfl rfl rfl rfl ?_ | refine w_end12 rfl rfl rfl rfl rfl rfl rfl rfl rfl rfl rfl rfl ?_ | refine w_end13 rfl rfl rfl rfl rfl rfl rfl rfl rfl rfl rfl rfl rfl ?_ | refine w_end14 rfl rfl rfl rfl rfl rfl rfl rfl rfl rfl rfl rfl rfl rfl ?_ | refine w_end15 rfl rfl rfl rfl rfl rfl rfl rfl rfl rfl rfl rfl rfl rfl rfl ?_ | refine w_end16 rfl rfl rfl rfl rfl rfl rfl rfl rfl rfl rfl rfl rfl rfl rfl rfl ?_)
      | ((refine i_cons ?_); first
        | (refine k_box rfl rfl ?_; intro h1 e1 l1 b1)
        | refine k_ldb rfl b1 rfl ?_
        | refine k_len rfl hl1 ?_
        | refine k_len rfl hl2 ?_
        | refine k_skip rfl ?_
        | refine k_skipU rfl ?_
        | refine k_want rfl ?_
        | refine k_mv rfl ?_
        | refine k_pickT rfl rfl ?_
        | refine k_pickF rfl rfl ?_
        | refine k_notT rfl ?_
        | refine k_notF rfl ?_
        | refine k_add rfl rfl (by omega) ?_
        | refine k_sub rfl rfl (by omega) ?_
        | refine k_mul rfl rfl (by omega) ?_
        | refine k_neg rfl (by omega) ?_
        | refine k_quo rfl rfl (by omega) ?_
        | refine k_rem rfl rfl (by omega) ?_
        | refine k_conv rfl (by omega) ?_
        | refine k_max rfl rfl ?_
        | refine k_min rfl rfl ?_
        | refine k_lssT rfl rfl (by omega) ?_
        | refine k_lssF rfl rfl (by omega) ?_
        | refine k_lss rfl rfl (fun hc => ?_) (fun hc => ?_)
        | refine k_leqT rfl rfl (by omega) ?_
        | refine k_leqF rfl rfl (by omega) ?_
        | refine k_leq rfl rfl (fun hc => ?_) (fun hc => ?_)
        | refine k_gtrT rfl rfl (by omega) ?_
        | refine k_gtrF rfl rfl (by omega) ?_
        | refine k_gtr rfl rfl (fun hc => ?_) (fun hc => ?_)
        | refine k_geqT rfl rfl (by omega) ?_
        | refine k_geqF rfl rfl (by omega) ?_
        | refine k_geq rfl rfl (fun hc => ?_) (fun hc => ?_)
        | refine k_eqlT rfl rfl (by omega) ?_
        | refine k_eqlF rfl rfl (by omega) ?_
        | refine k_eql rfl rfl (fun hc => ?_) (fun hc => ?_)
        | refine k_neqT rfl rfl (by omega) ?_
        | refine k_neqF rfl rfl (by omega) ?_
        | refine k_neq rfl rfl (fun hc => ?_) (fun hc => ?_)
        | refine k_len rfl rfl ?_
        | refine k_ok rfl rfl ?_))
    all_goals first
      | exact ⟨.inr rfl, e1, rfl⟩
      | (exfalso; omega)

def I14 (h0 : Heap) (id : Nat) (X O : SV) (xs os : List Int) (E : Env) (h : Heap) : Prop := ∃ i : Nat, i ≤ xs.length ∧ h = h0 ∧ (∀ k < i, xs[k]? ≠ os[k]?) ∧
  E = [(1, some (.sc (.ptr id 0))), (3, some (.sc (.int .i64 xs.length))), (4, some (.sc (.int .i64 i)))]
theorem round14 (h0 : Heap) (id : Nat) (X O : SV) (xs os : List Int) (hX : IsInts h0 X xs) (hO : IsInts h0 O os) (hb : Blk.At h0 id [X, O]) (hl : xs.length ≤ 1000000) (hlo : os.length = xs.length) (E : Env) (h : Heap) (hI : I14 h0 id X O xs os E h) :
    wA FT HK b14L0 (E.keep [1, 3, 4]) h (wRound (I14 h0 id X O xs os) (cnt xs.length 4) (cnt xs.length 4 E h) (RFind h0 false (¬ Diff xs os) 2)) := by
  obtain ⟨i, hi, rfl, hd, rfl⟩ := hI
  by_cases hlt : i < xs.length
  · obtain ⟨x, hx⟩ : ∃ x, xs[i]? = some x := ⟨_, List.getElem?_eq_getElem hlt⟩
    obtain ⟨y, hy⟩ : ∃ y, os[i]? = some y := ⟨_, List.getElem?_eq_getElem (by omega)⟩
    obtain ⟨ix, ox, cx, rfl, hrx⟩ := IsInts.at hX hx
    obtain ⟨iy, oy, cy, rfl, hry⟩ := IsInts.at hO hy
    repeat' (first
      | refine w_seq ?_
      | refine w_seqN ?_
      | refine w_seqX ?_
      | refine w_seqR ?_
      | refine w_blk ?_
      | refine w_blkN ?_
      | refine w_blkX ?_
      | refine w_blkR ?_
      | refine w_skip ?_
      | refine w_ret ?_
      | refine w_exit ?_
      | refine w_ops ?_
      | refine w_opsD ?_
      | refine d_one ?_
      | refine d_nil ?_
      | ((refine i_cond ?_); first | refine w_condT rfl ?_ | refine w_condF rfl ?_)
      | ((refine i_nil ?_); first | refine d_same ?_ | refine d_ord ?_ | refine d_ext ⟨_, rfl⟩ ?_ | refine d_ext (extA _ _ _) ?_ | refine d_ext (by assumption) ?_ | refine w_end0 ?_ | refine w_end1 rfl ?_ | refine w_end2 rfl rfl ?_ | refine w_end3 rfl rfl rfl ?_ | refine w_end4 rfl rfl rfl rfl ?_ | refine w_end5 rfl rfl rfl rfl rfl ?_ | refine w_end6 rfl rfl rfl rfl rfl rfl ?_ | refine w_end7 rfl rfl rfl rfl rfl rfl rfl ?_ | refine w_end8 rfl rfl rfl rfl rfl rfl rfl rfl ?_ | refine w_end9 rfl rfl rfl rfl rfl rfl rfl rfl rfl ?_ | refine w_end10 rfl rfl rfl rfl rfl rfl rfl rfl rfl rfl ?_ | refine w_end11 rfl rfl rfl rfl rfl rfl rfl rfl rfl rfl rfl ?_ | refine w_end12 rfl rfl rfl rfl rfl rfl rfl rfl rfl rfl rfl rfl ?_ | refine w_end13 rfl rfl rfl rfl rfl rfl rfl rfl rfl rfl rfl rfl rfl ?_ | refine w_end14 rfl rfl rfl rfl rfl rfl rfl rfl rfl rfl rfl rfl rfl rfl ?_ | refine w_end15 rfl rfl rfl rfl rfl rfl rfl rfl rfl rfl rfl rfl rfl rfl rfl ?_ | refine w_end16 rfl rfl rfl rfl rfl rfl rfl rfl rfl rfl rfl rfl rfl rfl rfl rfl ?_)
      | ((refine i_cons ?_); first
        | refine k_ldb rfl hb rfl ?_
        | refine k_idxA rfl rfl (by omega) ?_
        | refine k_ld rfl hrx ?_
        | refine k_ld rfl hry ?_
        | refine k_skip rfl ?_
        | refine k_skipU rfl ?_
        | refine k_want rfl ?_
        | refine k_mv rfl ?_
        | refine k_pickT rfl rfl ?_
        | refine k_pickF rfl rfl ?_
        | refine k_notT rfl ?_
        | refine k_notF rfl ?_
        | refine k_add rfl rfl (by omega) ?_
        | refine k_sub rfl rfl (by omega) ?_
        | refine k_mul rfl rfl (by omega) ?_
        | refine k_neg rfl (by omega) ?_
        | refine k_quo rfl rfl (by omega) ?_
        | refine k_rem rfl rfl (by omega) ?_
        | refine k_conv rfl (by omega) ?_
        | refine k_max rfl rfl ?_
        | refine k_min rfl rfl ?_
        | refine k_lssT rfl rfl (by omega) ?_
        | refine k_lssF rfl rfl (by omega) ?_
        | refine k_lss rfl rfl (fun hc => ?_) (fun hc => ?_)
        | refine k_leqT rfl rfl (by omega) ?_
        | refine k_leqF rfl rfl (by omega) ?_
        | refine k_leq rfl rfl (fun hc => ?_) (fun hc => ?_)
        | refine k_gtrT rfl rfl (by omega) ?_
        | refine k_gtrF rfl rfl (by omega) ?_
        | refine k_gtr rfl rfl (fun hc => ?_) (fun hc => ?_)
        | refine k_geqT rfl rfl (by omega) ?_
        | refine k_geqF rfl rfl (by omega) ?_
        | refine k_geq rfl rfl (fun hc => ?_) (fun hc => ?_)
        | refine k_eqlT rfl rfl (by omega) ?_
        | refine k_eqlF rfl rfl (by omega) ?_
        | refine k_eql rfl rfl (fun hc => ?_) (fun hc => ?_)
        | refine k_neqT rfl rfl (by omega) ?_
        | refine k_neqF rfl rfl (by omega) ?_
        | refine k_neq rfl rfl (fun hc => ?_) (fun hc => ?_)
        | refine k_len rfl rfl ?_
        | refine k_ok rfl rfl ?_))
    · exact w_roundR ⟨Ext.refl _, rfl, fun hD => hD i hlt (by rw [hx, hy, hc])⟩
    · exact w_roundN ⟨i + 1, by omega, rfl, diff_step hd (by rw [hx, hy]; simpa using hc), rfl⟩ (by simp [cnt, Env.get]; omega)
  · repeat' (first
   | refine w_seq ?_
   | refine w_seqN ?_
   | refine w_seqX ?_
   | refine w_seqR ?_
   | refine w_blk ?_
   | refine w_blkN ?_
   | refine w_blkX ?_
   | refine w_blkR ?_
   | refine w_skip ?_
   | refine w_ret ?_
   | refine w_exit ?_
   | refine w_ops ?_
   | refine w_opsD ?_
   | refine d_one ?_
   | refine d_nil ?_
   | ((refine i_cond ?_); first | refine w_condT rfl ?_ | refine w_condF rfl ?_)
   | ((refine i_nil ?_); first | refine d_same ?_ | refine d_ord ?_ | refine d_ext ⟨_, rfl⟩ ?_ | refine d_ext (extA _ _ _) ?_ | refine d_ext (by assumption) ?_ | refine w_end0 ?_ | refine w_end1 rfl ?_ | refine w_end2 rfl rfl ?_ | refine w_end3 rfl rfl rfl ?_ | refine w_end4 rfl rfl rfl rfl ?_ | refine w_end5 rfl rfl rfl rfl rfl ?_ | refine w_end6 rfl rfl rfl rfl rfl rfl ?_ | refine w_end7 rfl rfl rfl rfl rfl rfl rfl ?_ | refine w_end8 rfl rfl rfl rfl rfl rfl rfl rfl ?_ | refine w_end9 rfl rfl rfl rfl rfl rfl rfl rfl rfl ?_ | refine w_end10 rfl rfl rfl rfl rfl rfl rfl rfl rfl rfl ?_ | refine w_end11 rfl rfl rfl rfl rfl rfl rfl rfl rfl rfl rfl ?_ | refine w_end12 rfl rfl rfl rfl rfl rfl rfl rfl rfl rfl rfl rfl ?_ | refine w_end13 rfl rfl rfl rfl rfl rfl rfl rfl rfl rfl rfl rfl rfl ?_ | refine w_end14 rfl rfl rfl rfl rfl rfl rfl rfl rfl rfl rfl rfl rfl rfl ?_ | refine w_end15 rfl rfl rfl rfl rfl rfl rfl rfl rfl rfl rfl rfl rfl rfl rfl ?_ | refine w_end16 rfl rfl rfl rfl rfl rfl rfl rfl rfl rfl rfl rfl rfl rfl rfl rfl ?_)
   | ((refine i_cons ?_); first
     | refine k_skip rfl ?_
     | refine k_skipU rfl ?_
     | refine k_want rfl ?_
     | refine k_mv rfl ?_
     | refine k_pickT rfl rfl ?_
     | refine k_pickF rfl rfl ?_
     | refine k_notT rfl ?_
     | refine k_notF rfl ?_
     | refine k_add rfl rfl (by omega) ?_
     | refine k_sub rfl rfl (by omega) ?_
     | refine k_mul rfl rfl (by omega) ?_
     | refine k_neg rfl (by omega) ?_
     | refine k_quo rfl rfl (by omega) ?_
     | refine k_rem rfl rfl (by omega) ?_
     | refine k_conv rfl (by omega) ?_
     | refine k_max rfl rfl ?_
     | refine k_min rfl rfl ?_
     | refine k_lssT rfl rfl (by omega) ?_
     | refine k_lssF rfl rfl (by omega) ?_
     | refine k_lss rfl rfl (fun hc => ?_) (fun hc => ?_)
     | refine k_leqT rfl rfl (by omega) ?_
     | refine k_leqF rfl rfl (by omega) ?_
     | refine k_leq rfl rfl (fun hc => ?_) (fun hc => ?_)
     | refine k_gtrT rfl rfl (by omega) ?_
     | refine k_gtrF rfl rfl (by omega) ?_
     | refine k_gtr rfl rfl (fun hc => ?_) (fun hc => ?_)
     | refine k_geqT rfl rfl (by omega) ?_
     | refine k_geqF rfl rfl (by omega) ?_
     | refine k_geq rfl rfl (fun hc => ?_) (fun hc => ?_)
     | refine k_eqlT rfl rfl (by omega) ?_
     | refine k_eqlF rfl rfl (by omega) ?_
     | refine k_eql rfl rfl (fun hc => ?_) (fun hc => ?_)
     | refine k_neqT rfl rfl (by omega) ?_
     | refine k_neqF rfl rfl (by omega) ?_
     | refine k_neq rfl rfl (fun hc => ?_) (fun hc => ?_)
     | refine k_len rfl rfl ?_
     | refine k_ok rfl rfl ?_))
    exact w_roundX ⟨Ext.refl _, rfl, fun hc => hc fun k hk => hd k (by omega)⟩

theorem call14 (hk : HK 14 = none) (hk2 : HK 35 = none) (hk3 : HK 49 = none) (h0 : Heap) (X O : SV) (xs os : List Int) (hX : IsInts h0 X xs) (hO : IsInts h0 O os) (hlo : os.length ≤ 1000000) :
    ∃ v h', Cal FT HK 14 [.agg [X, O]] h0 v h' ∧ Ext h0 h' ∧ v = .sc (.bool (decide (VG xs os))) := by
  refine Cal.of (F := a14) hk rfl rfl ?_
  have hl1 := IsSl.len hX
  have hl2 := IsSl.len hO
  by_cases c0 : 2 ≤ xs.length ∧ xs.length ≤ 40
  · obtain ⟨c1, c2⟩ := c0
    by_cases p1 : PermP xs
    · by_cases p2 : os.length = xs.length ∧ PermP os
      · obtain ⟨c3, p2⟩ := p2
        repeat' (first
          | refine w_seq ?_
          | refine w_seqN ?_
          | refine w_seqX ?_
          | refine w_seqR ?_
          | refine w_blk ?_
          | refine w_blkN ?_
          | refine w_blkX ?_
          | refine w_blkR ?_
          | refine w_skip ?_
          | refine w_ret ?_
          | refine w_exit ?_
          | refine w_ops ?_
          | refine w_opsD ?_
          | refine d_one ?_
          | refine d_nil ?_
          | ((refine i_cond ?_); first | refine w_condT rfl ?_ | refine w_condF rfl ?_)
          | ((refine i_nil ?_); first | refine d_same ?_ | refine d_ord ?_ | refine d_ext ⟨_, rfl⟩ ?_ | refine d_ext (extA _ _ _) ?_ | refine d_ext (by assumption) ?_ | refine w_end0 ?_ | refine w_end1 rfl ?_ | refine w_end2 rfl rfl ?_ | refine w_end3 rfl rfl rfl ?_ | refine w_end4 rfl rfl rfl rfl ?_ | refine w_end5 rfl rfl rfl rfl rfl ?_ | refine w_end6 rfl rfl rfl rfl rfl rfl ?_ | refine w_end7 rfl rfl rfl rfl rfl rfl rfl ?_ | refine w_end8 rfl rfl rfl rfl rfl rfl rfl rfl ?_ | refine w_end9 rfl rfl rfl rfl rfl rfl rfl rfl rfl ?_ | refine w_end10 rfl rfl rfl rfl rfl rfl rfl rfl rfl rfl ?_ | refine w_end11 rfl rfl rfl rfl rfl rfl rfl rfl rfl rfl rfl ?_ | refine w_end12 rfl rfl rfl rfl rfl rfl rfl rfl rfl rfl rfl rfl ?_ | refine w_end13 rfl rfl rfl rfl rfl rfl rfl rfl rfl rfl rfl rfl rfl ?_ | refine w_end14 rfl rfl rfl rfl rfl rfl rfl rfl rfl rfl rfl rfl rfl rfl ?_ | refine w_end15 rfl rfl rfl rfl rfl rfl rfl rfl rfl rfl rfl rfl rfl rfl rfl ?_ | refine w_end16 rfl rfl rfl rfl rfl rfl rfl rfl rfl rfl rfl rfl rfl rfl rfl rfl ?_)
          | ((refine i_cons ?_); first
            | (refine k_box rfl rfl ?_; intro h1 e1 l1 b1; have k1 := call35 (HK := HK) hk2 hk3 h1 X xs xs.length (IsSl.ext hX e1) (by omega); rw [decide_eq_true ⟨rfl, (perm_iff xs).1 p1⟩] at k1)
            | refine k_ldb rfl b1 rfl ?_
            | refine k_len rfl hl1 ?_
            | (refine k_call rfl k1 ?_; rintro v h2 ⟨e2, rfl⟩; have b2 := Blk.At.ext b1 e2; have e12 := e1.trans e2; have k2 := call35 (HK := HK) hk2 hk3 h2 O os xs.length (IsSl.ext hO e12) (by omega); rw [decide_eq_true ⟨c3, (perm_iff os).1 p2⟩] at k2)
            | refine k_ldb rfl b2 rfl ?_
            | (refine k_call rfl k2 ?_; rintro v h3 ⟨e3, rfl⟩)
            | refine k_skip rfl ?_
            | refine k_skipU rfl ?_
            | refine k_want rfl ?_
            | refine k_mv rfl ?_
            | refine k_pickT rfl rfl ?_
            | refine k_pickF rfl rfl ?_
            | refine k_notT rfl ?_
            | refine k_notF rfl ?_
            | refine k_add rfl rfl (by omega) ?_
            | refine k_sub rfl rfl (by omega) ?_
            | refine k_mul rfl rfl (by omega) ?_
            | refine k_neg rfl (by omega) ?_
            | refine k_quo rfl rfl (by omega) ?_
            | refine k_rem rfl rfl (by omega) ?_
            | refine k_conv rfl (by omega) ?_
            | refine k_max rfl rfl ?_
            | refine k_min rfl rfl ?_
            | refine k_lssT rfl rfl (by omega) ?_
            | refine k_lssF rfl rfl (by omega) ?_
            | refine k_lss rfl rfl (fun hc => ?_) (fun hc => ?_)
            | refine k_leqT rfl rfl (by omega) ?_
            | refine k_leqF rfl rfl (by omega) ?_
            | refine k_leq rfl rfl (fun hc => ?_) (fun hc => ?_)
            | refine k_gtrT rfl rfl (by omega) ?_
            | refine k_gtrF rfl rfl (by omega) ?_
            | refine k_gtr rfl rfl (fun hc => ?_) (fun hc => ?_)
            | refine k_geqT rfl rfl (by omega) ?_
            | refine k_geqF rfl rfl (by omega) ?_
            | refine k_geq rfl rfl (fun hc => ?_) (fun hc => ?_)
            | refine k_eqlT rfl rfl (by omega) ?_
            | refine k_eqlF rfl rfl (by omega) ?_
            | refine k_eql rfl rfl (fun hc => ?_) (fun hc => ?_)
            | refine k_neqT rfl rfl (by omega) ?_
            | refine k_neqF rfl rfl (by omega) ?_
            | refine k_neq rfl rfl (fun hc => ?_) (fun hc => ?_)
            | refine k_len rfl rfl ?_
            | refine k_ok rfl rfl ?_))
        have e13 := e12.trans e3
        refine w_loop (I14 h3 h0.length X O xs os) (cnt xs.length 4) (RFind h3 false (¬ Diff xs os) 2) ⟨0, Nat.zero_le _, rfl, fun k hk => by omega, rfl⟩ (round14 h3 h0.length X O xs os (IsSl.ext hX e13) (IsSl.ext hO e13) (Blk.At.ext b2 e3) (by omega) c3) ?_
        rintro ex E' h4 ⟨e4, hR⟩
        cases ex with
        | nm => exact hR.elim
        | rt =>
          obtain ⟨rfl, hp⟩ := hR
          repeat' (first
            | refine w_seq ?_
            | refine w_seqN ?_
            | refine w_seqX ?_
            | refine w_seqR ?_
            | refine w_blk ?_
            | refine w_blkN ?_
            | refine w_blkX ?_
            | refine w_blkR ?_
            | refine w_skip ?_
            | refine w_ret ?_
            | refine w_exit ?_
            | refine w_ops ?_
            | refine w_opsD ?_
            | refine d_one ?_
            | refine d_nil ?_
            | ((refine i_cond ?_); first | refine w_condT rfl ?_ | refine w_condF rfl ?_)
            | ((refine i_nil ?_); first | refine d_same ?_ | refine d_ord ?_ | refine d_ext ⟨_, rfl⟩ ?_ | refine d_ext (extA _ _ _) ?_ | refine d_ext (by assumption) ?_ | refine w_end0 ?_ | refine w_end1 rfl ?_ | refine w_end2 rfl rfl ?_ | refine w_end3 rfl rfl rfl ?_ | refine w_end4 rfl rfl rfl rfl ?_ | refine w_end5 rfl rfl rfl rfl rfl ?_ | refine w_end6 rfl rfl rfl rfl rfl rfl ?_ | refine w_end7 rfl rfl rfl rfl rfl rfl rfl ?_ | refine w_end8 rfl rfl rfl rfl rfl rfl rfl rfl ?_ | refine w_end9 rfl rfl rfl rfl rfl rfl rfl rfl rfl ?_ | refine w_end10 rfl rfl rfl rfl rfl rfl rfl rfl rfl rfl ?_ | refine w_end11 rfl rfl rfl rfl rfl rfl rfl rfl rfl rfl rfl ?_ | refine w_end12 rfl rfl rfl rfl rfl rfl rfl rfl rfl rfl rfl rfl ?_ | refine w_end13 rfl rfl rfl rfl rfl rfl rfl rfl rfl rfl rfl rfl rfl ?_ | refine w_end14 rfl rfl rfl rfl rfl rfl rfl rfl rfl rfl rfl rfl rfl rfl ?_ | refine w_end15 rfl rfl rfl rfl rfl rfl rfl rfl rfl rfl rfl rfl rfl rfl rfl ?_ | refine w_end16 rfl rfl rfl rfl rfl rfl rfl rfl rfl rfl rfl rfl rfl rfl rfl rfl ?_)
            | ((refine i_cons ?_); first
              | refine k_skip rfl ?_
              | refine k_skipU rfl ?_
              | refine k_want rfl ?_
              | refine k_mv rfl ?_
              | refine k_pickT rfl rfl ?_
              | refine k_pickF rfl rfl ?_
              | refine k_notT rfl ?_
              | refine k_notF rfl ?_
              | refine k_add rfl rfl (by omega) ?_
              | refine k_sub rfl rfl (by omega) ?_
              | refine k_mul rfl rfl (by omega) ?_
              | refine k_neg rfl (by omega) ?_
              | refine k_quo rfl rfl (by omega) ?_
              | refine k_rem rfl rfl (by omega) ?_
              | refine k_conv rfl (by omega) ?_
              | refine k_max rfl rfl ?_
              | refine k_min rfl rfl ?_
              | refine k_lssT rfl rfl (by omega) ?_
              | refine k_lssF rfl rfl (by omega) ?_
              | refine k_lss rfl rfl (fun hc => ?_) (fun hc => ?_)
              | refine k_leqT rfl rfl (by omega) ?_
              | refine k_leqF rfl rfl (by omega) ?_
              | refine k_leq rfl rfl (fun hc => ?_) (fun hc => ?_)
              | refine k_gtrT rfl rfl (by omega) ?_
              | refine k_gtrF rfl rfl (by omega) ?_
              | refine k_gtr rfl rfl (fun hc => ?_) (fun hc => ?_)
              | refine k_geqT rfl rfl (by omega) ?_
              | refine k_geqF rfl rfl (by omega) ?_
              | refine k_geq rfl rfl (fun hc => ?_) (fun hc => ?_)
              | refine k_eqlT rfl rfl (by omega) ?_
              | refine k_eqlF rfl rfl (by omega) ?_
              | refine k_eql rfl rfl (fun hc => ?_) (fun hc => ?_)
              | refine k_neqT rfl rfl (by omega) ?_
              | refine k_neqF rfl rfl (by omega) ?_
              | refine k_neq rfl rfl (fun hc => ?_) (fun hc => ?_)
              | refine k_len rfl rfl ?_
              | refine k_ok rfl rfl ?_))
          exact ⟨.inr rfl, e13.trans e4, by rw [decide_eq_false fun hv => hp hv.2.2.2.1]; rfl⟩
        | ex i =>
          obtain ⟨rfl, hp⟩ := hR
          repeat' (first
            | refine w_seq ?_
            | refine w_seqN ?_
            | refine w_seqX ?_
            | refine w_seqR ?_
            | refine w_blk ?_
            | refine w_blkN ?_
            | refine w_blkX ?_
            | refine w_blkR ?_
            | refine w_skip ?_
            | refine w_ret ?_
            | refine w_exit ?_
            | refine w_ops ?_
            | refine w_opsD ?_
            | refine d_one ?_
            | refine d_nil ?_
            | ((refine i_cond ?_); first | refine w_condT rfl ?_ | refine w_condF rfl ?_)
            | ((refine i_nil ?_); first | refine d_same ?_ | refine d_ord ?_ | refine d_ext ⟨_, rfl⟩ ?_ | refine d_ext (extA _ _ _) ?_ | refine d_ext (by assumption) ?_ | refine w_end0 ?_ | refine w_end1 rfl ?_ | refine w_end2 rfl rfl ?_ | refine w_end3 rfl rfl rfl ?_ | refine w_end4 rfl rfl rfl rfl ?_ | refine w_end5 rfl rfl rfl rfl rfl ?_ | refine w_end6 rfl rfl rfl rfl rfl rfl ?_ | refine w_end7 rfl rfl rfl rfl rfl rfl rfl ?_ | refine w_end8 rfl rfl rfl rfl rfl rfl rfl rfl ?_ | refine w_end9 rfl rfl rfl rfl rfl rfl rfl rfl rfl ?_ | refine w_end10 rfl rfl rfl rfl rfl rfl rfl rfl rfl rfl ?_ | refine w_end11 rfl rfl rfl rfl rfl rfl rfl rfl rfl rfl rfl ?_ | refine w_end12 rfl rfl rfl rfl rfl rfl rfl rfl rfl rfl rfl rfl ?_ | refine w_end13 rfl rfl rfl rfl rfl rfl rfl rfl rfl rfl rfl rfl rfl ?_ | refine w_end14 rfl rfl rfl rfl rfl rfl rfl rfl rfl rfl rfl rfl rfl rfl ?_ | refine w_end15 rfl rfl rfl rfl rfl rfl rfl rfl rfl rfl rfl rfl rfl rfl rfl ?_ | refine w_end16 rfl rfl rfl rfl rfl rfl rfl rfl rfl rfl rfl rfl rfl rfl rfl rfl ?_)
            | ((refine i_cons ?_); first
              | refine k_skip rfl ?_
              | refine k_skipU rfl ?_
              | refine k_want rfl ?_
              | refine k_mv rfl ?_
              | refine k_pickT rfl rfl ?_
              | refine k_pickF rfl rfl ?_
              | refine k_notT rfl ?_
              | refine k_notF rfl ?_
              | refine k_add rfl rfl (by omega) ?_
              | refine k_sub rfl rfl (by omega) ?_
              | refine k_mul rfl rfl (by omega) ?_
              | refine k_neg rfl (by omega) ?_
              | refine k_quo rfl rfl (by omega) ?_
              | refine k_rem rfl rfl (by omega) ?_
              | refine k_conv rfl (by omega) ?_
              | refine k_max rfl rfl ?_
              | refine k_min rfl rfl ?_
              | refine k_lssT rfl rfl (by omega) ?_
              | refine k_lssF rfl rfl (by omega) ?_
              | refine k_lss rfl rfl (fun hc => ?_) (fun hc => ?_)
              | refine k_leqT rfl rfl (by omega) ?_
              | refine k_leqF rfl rfl (by omega) ?_
              | refine k_leq rfl rfl (fun hc => ?_) (fun hc => ?_)
              | refine k_gtrT rfl rfl (by omega) ?_
              | refine k_gtrF rfl rfl (by omega) ?_
              | refine k_gtr rfl rfl (fun hc => ?_) (fun hc => ?_)
              | refine k_geqT rfl rfl (by omega) ?_
              | refine k_geqF rfl rfl (by omega) ?_
              | refine k_geq rfl rfl (fun hc => ?_) (fun hc => ?_)
              | refine k_eqlT rfl rfl (by omega) ?_
              | refine k_eqlF rfl rfl (by omega) ?_
              | refine k_eql rfl rfl (fun hc => ?_) (fun hc => ?_)
              | refine k_neqT rfl rfl (by omega) ?_
              | refine k_neqF rfl rfl (by omega) ?_
              | refine k_neq rfl rfl (fun hc => ?_) (fun hc => ?_)
              | refine k_len rfl rfl ?_
              | refine k_ok rfl rfl ?_))
          exact ⟨.inr rfl, e13.trans e4, by rw [decide_eq_true ⟨c1, c2, c3, Classical.not_not.1 hp, p1, p2⟩]; rfl⟩
      · have hv : ¬ VG xs os := fun hv => p2 ⟨hv.2.2.1, hv.2.2.2.2.2⟩
        have hq : ¬ (os.length = xs.length ∧ ∀ k < os.length, (k : Int) ∈ os) := fun h => p2 ⟨h.1, (perm_iff os).2 h.2⟩
        rw [decide_eq_false hv]
        repeat' (first
          | refine w_seq ?_
          | refine w_seqN ?_
          | refine w_seqX ?_
          | refine w_seqR ?_
          | refine w_blk ?_
          | refine w_blkN ?_
          | refine w_blkX ?_
          | refine w_blkR ?_
          | refine w_skip ?_
          | refine w_ret ?_
          | refine w_exit ?_
          | refine w_ops ?_
          | refine w_opsD ?_
          | refine d_one ?_
          | refine d_nil ?_
          | ((refine i_cond ?_); first | refine w_condT rfl ?_ | refine w_condF rfl ?_)
          | ((refine i_nil ?_); first | refine d_same ?_ | refine d_ord ?_ | refine d_ext ⟨_, rfl⟩ ?_ | refine d_ext (extA _ _ _) ?_ | refine d_ext (by assumption) ?_ | refine w_end0 ?_ | refine w_end1 rfl ?_ | refine w_end2 rfl rfl ?_ | refine w_end3 rfl rfl rfl ?_ | refine w_end4 rfl rfl rfl rfl ?_ | refine w_end5 rfl rfl rfl rfl rfl ?_ | refine w_end6 rfl rfl rfl rfl rfl rfl ?_ | refine w_end7 rfl rfl rfl rfl rfl rfl rfl ?_ | refine w_end8 rfl rfl rfl rfl rfl rfl rfl rfl ?_ | refine w_end9 rfl rfl rfl rfl rfl rfl rfl rfl rfl ?_ | refine w_end10 rfl rfl rfl rfl rfl rfl rfl rfl rfl rfl ?_ | refine w_end11 rfl rfl rfl rfl rfl rfl rfl rfl rfl rfl rfl ?_ | refine w_end12 rfl rfl rfl rfl rfl rfl rfl rfl rfl rfl rfl rfl ?_ | refine w_end13 rfl rfl rfl rfl rfl rfl rfl rfl rfl rfl rfl rfl rfl ?_ | refine w_end14 rfl rfl rfl rfl rfl rfl rfl rfl rfl rfl rfl rfl rfl rfl ?_ | refine w_end15 rfl rfl rfl rfl rfl rfl rfl rfl rfl rfl rfl rfl rfl rfl rfl ?_ | refine w_end16 rfl rfl rfl rfl rfl rfl rfl rfl rfl rfl rfl rfl rfl rfl rfl rfl ?_)
          | ((refine i_cons ?_); first
            | (refine k_box rfl rfl ?_; intro h1 e1 l1 b1; have k1 := call35 (HK := HK) hk2 hk3 h1 X xs xs.length (IsSl.ext hX e1) (by omega); rw [decide_eq_true ⟨rfl, (perm_iff xs).1 p1⟩] at k1)
            | refine k_ldb rfl b1 rfl ?_
            | refine k_len rfl hl1 ?_
            | (refine k_call rfl k1 ?_; rintro v h2 ⟨e2, rfl⟩; have b2 := Blk.At.ext b1 e2; have e12 := e1.trans e2; have k2 := call35 (HK := HK) hk2 hk3 h2 O os xs.length (IsSl.ext hO e12) (by omega); rw [decide_eq_false hq] at k2)
            | refine k_ldb rfl b2 rfl ?_
            | (refine k_call rfl k2 ?_; rintro v h3 ⟨e3, rfl⟩)
            | refine k_skip rfl ?_
            | refine k_skipU rfl ?_
            | refine k_want rfl ?_
            | refine k_mv rfl ?_
            | refine k_pickT rfl rfl ?_
            | refine k_pickF rfl rfl ?_
            | refine k_notT rfl ?_
            | refine k_notF rfl ?_
            | refine k_add rfl rfl (by omega) ?_
            | refine k_sub rfl rfl (by omega) ?_
            | refine k_mul rfl rfl (by omega) ?_
            | refine k_neg rfl (by omega) ?_
            | refine k_quo rfl rfl (by omega) ?_
            | refine k_rem rfl rfl (by omega) ?_
            | refine k_conv rfl (by omega) ?_
            | refine k_max rfl rfl ?_
            | refine k_min rfl rfl ?_
            | refine k_lssT rfl rfl (by omega) ?_
            | refine k_lssF rfl rfl (by omega) ?_
            | refine k_lss rfl rfl (fun hc => ?_) (fun hc => ?_)
            | refine k_leqT rfl rfl (by omega) ?_
            | refine k_leqF rfl rfl (by omega) ?_
            | refine k_leq rfl rfl (fun hc => ?_) (fun hc => ?_)
            | refine k_gtrT rfl rfl (by omega) ?_
            | refine k_gtrF rfl rfl (by omega) ?_
            | refine k_gtr rfl rfl (fun hc => ?_) (fun hc => ?_)
            | refine k_geqT rfl rfl (by omega) ?_
            | refine k_geqF rfl rfl (by omega) ?_
            | refine k_geq rfl rfl (fun hc => ?_) (fun hc => ?_)
            | refine k_eqlT rfl rfl (by omega) ?_
            | refine k_eqlF rfl rfl (by omega) ?_
            | refine k_eql rfl rfl (fun hc => ?_) (fun hc => ?_)
            | refine k_neqT rfl rfl (by omega) ?_
            | refine k_neqF rfl rfl (by omega) ?_
            | refine k_neq rfl rfl (fun hc => ?_) (fun hc => ?_)
            | refine k_len rfl rfl ?_
            | refine k_ok rfl rfl ?_))
        exact ⟨.inr rfl, e12.trans e3, rfl⟩
    · have hv : ¬ VG xs os := fun hv => p1 hv.2.2.2.2.1
      have hq : ¬ (xs.length = xs.length ∧ ∀ k < xs.length, (k : Int) ∈ xs) := fun h => p1 ((perm_iff xs).2 h.2)
      rw [decide_eq_false hv]
      repeat' (first
        | refine w_seq ?_
        | refine w_seqN ?_
        | refine w_seqX ?_
        | refine w_seqR ?_
        | refine w_blk ?_
        | refine w_blkN ?_
        | refine w_blkX ?_
        | refine w_blkR ?_
        | refine w_skip ?_
        | refine w_ret ?_
        | refine w_exit ?_
        | refine w_ops ?_
        | refine w_opsD ?_
        | refine d_one ?_
        | refine d_nil ?_
        | ((refine i_cond ?_); first | refine w_condT rfl ?_ | refine w_condF rfl ?_)
        | ((refine i_nil ?_); first | refine d_same ?_ | refine d_ord ?_ | refine d_ext ⟨_, rfl⟩ ?_ | refine d_ext (extA _ _ _) ?_ | refine d_ext (by assumption) ?_ | refine w_end0 ?_ | refine w_end1 rfl ?_ | refine w_end2 rfl rfl ?_ | refine w_end3 rfl rfl rfl ?_ | refine w_end4 rfl rfl rfl rfl ?_ | refine w_end5 rfl rfl rfl rfl rfl ?_ | refine w_end6 rfl rfl rfl rfl rfl rfl ?_ | refine w_end7 rfl rfl rfl rfl rfl rfl rfl ?_ | refine w_end8 rfl rfl rfl rfl rfl rfl rfl rfl ?_ | refine w_end9 rfl rfl rfl rfl rfl rfl rfl rfl rfl ?_ | refine w_end10 rfl rfl rfl rfl rfl rfl rfl rfl rfl rfl ?_ | refine w_end11 rfl rfl rfl rfl rfl rfl rfl rfl rfl rfl rfl ?_ | refine w_end12 rfl rfl rfl rfl rfl rfl rfl rfl rfl rfl rfl rfl ?_ | refine w_end13 rfl rfl rfl rfl rfl rfl rfl rfl rfl rfl rfl rfl rfl ?_ | refine w_end14 rfl rfl rfl rfl rfl rfl rfl rfl rfl rfl rfl rfl rfl rfl ?_ | refine w_end15 rfl rfl rfl rfl rfl rfl rfl rfl rfl rfl rfl rfl rfl rfl rfl ?_ | refine w_end16 rfl rfl rfl rfl rfl rfl rfl rfl rfl rfl rfl rfl rfl rfl rfl rfl ?_)
        | ((refine i_cons ?_); first
          | (refine k_box rfl rfl ?_; intro h1 e1 l1 b1; have k1 := call35 (HK := HK) hk2 hk3 h1 X xs xs.length (IsSl.ext hX e1) (by omega); rw [decide_eq_false hq] at k1)
          | refine k_ldb rfl b1 rfl ?_
          | refine k_len rfl hl1 ?_
          | (refine k_call rfl k1 ?_; rintro v h2 ⟨e2, rfl⟩)
          | refine k_skip rfl ?_
          | refine k_skipU rfl ?_
          | refine k_want rfl ?_
          | refine k_mv rfl ?_
          | refine k_pickT rfl rfl ?_
          | refine k_pickF rfl rfl ?_
          | refine k_notT rfl ?_
          | refine k_notF rfl ?_
          | refine k_add rfl rfl (by omega) ?_
          | refine k_sub rfl rfl (by omega) ?_
          | refine k_mul rfl rfl (by omega) ?_
          | refine k_neg rfl (by omega) ?_
          | refine k_quo rfl rfl (by omega) ?_
          | refine k_rem rfl rfl (by omega) ?_
          | refine k_conv rfl (by omega) ?_
          | refine k_max rfl rfl ?_
          | refine k_min rfl rfl ?_
          | refine k_lssT rfl rfl (by omega) ?_
          | refine k_lssF rfl rfl (by omega) ?_
          | refine k_lss rfl rfl (fun hc => ?_) (fun hc => ?_)
          | refine k_leqT rfl rfl (by omega) ?_
          | refine k_leqF rfl rfl (by omega) ?_
          | refine k_leq rfl rfl (fun hc => ?_) (fun hc => ?_)
          | refine k_gtrT rfl rfl (by omega) ?_
          | refine k_gtrF rfl rfl (by omega) ?_
          | refine k_gtr rfl rfl (fun hc => ?_) (fun hc => ?_)
          | refine k_geqT rfl rfl (by omega) ?_
          | refine k_geqF rfl rfl (by omega) ?_
          | refine k_geq rfl rfl (fun hc => ?_) (fun hc => ?_)
          | refine k_eqlT rfl rfl (by omega) ?_
          | refine k_eqlF rfl rfl (by omega) ?_
          | refine k_eql rfl rfl (fun hc => ?_) (fun hc => ?_)
          | refine k_neqT rfl rfl (by omega) ?_
          | refine k_neqF rfl rfl (by omega) ?_
          | refine k_neq rfl rfl (fun hc => ?_) (fun hc => ?_)
          | refine k_len rfl rfl ?_
          | refine k_ok rfl rfl ?_))
      exact ⟨.inr rfl, e1.trans e2, rfl⟩
  · have hv : ¬ VG xs os := fun hv => c0 ⟨hv.1, hv.2.1⟩
    rw [decide_eq_false hv]
    repeat' (first
      | refine w_seq ?_
      | refine w_seqN ?_
      | refine w_seqX ?_
      | refine w_seqR ?_
      | refine w_blk ?_
      | refine w_blkN ?_
      | refine w_blkX ?_
      | refine w_blkR ?_
      | refine w_skip ?_
      | refine w_ret ?_
      | refine w_exit ?_
      | refine w_ops ?_
      | refine w_opsD ?_
      | refine d_one ?_
      | refine d_nil ?_
      | ((refine i_cond ?_); first | refine w_condT rfl ?_ | refine w_condF rfl ?_)
      | ((refine i_nil ?_); first | refine d_same ?_ | refine d_ord ?_ | refine d_ext ⟨_, rfl⟩ ?_ | refine d_ext (extA _ _ _) ?_ | refine d_ext (by assumption) ?_ | refine w_end0 ?_ | refine w_end1 rfl ?_ | refine w_end2 rfl rfl ?_ | refine w_end3 rfl rfl rfl ?_ | refine w_end4 rfl rfl rfl rfl ?_ | refine w_end5 rfl rfl rfl rfl rfl ?_ | refine w_end6 rfl rfl rfl rfl rfl rfl ?_ | refine w_end7 rfl rfl rfl rfl rfl rfl rfl ?_ | refine w_end8 rfl rfl rfl rfl rfl rfl rfl rfl ?_ | refine w_end9 rfl rfl rfl rfl rfl rfl rfl rfl rfl ?_ | refine w_end10 rfl rfl rfl rfl rfl rfl rfl rfl rfl rfl ?_ | refine w_end11 rfl rfl rfl rfl rfl rfl rfl rfl rfl rfl rfl ?_ | refine w_end12 rfl rfl rfl rfl rfl rfl rfl rfl rfl rfl rfl rfl ?_ | refine w_end13 rfl rfl rfl rfl rfl rfl rfl rfl rfl rfl rfl rfl rfl ?_ | refine w_end14 rfl rfl rfl rfl rfl rfl rfl rfl rfl rfl rfl rfl rfl rfl ?_ | refine w_end15 rfl rfl rfl rfl rfl rfl rfl rfl rfl rfl rfl rfl rfl rfl rfl ?_ | refine w_end16 rfl rfl rfl rfl rfl rfl rfl rfl rfl rfl rfl rfl rfl rfl rfl rfl ?_)
      | ((refine i_cons ?_); first
        | (refine k_box rfl rfl ?_; intro h1 e1 l1 b1)
        | refine k_ldb rfl b1 rfl ?_
        | refine k_len rfl hl1 ?_
        | refine k_skip rfl ?_
        | refine k_skipU rfl ?_
        | refine k_want rfl ?_
        | refine k_mv rfl ?_
        | refine k_pickT rfl rfl ?_
        | refine k_pickF rfl rfl ?_
        | refine k_notT rfl ?_
        | refine k_notF rfl ?_
        | refine k_add rfl rfl (by omega) ?_
        | refine k_sub rfl rfl (by omega) ?_
        | refine k_mul rfl rfl (by omega) ?_
        | refine k_neg rfl (by omega) ?_
        | refine k_quo rfl rfl (by omega) ?_
        | refine k_rem rfl rfl (by omega) ?_
        | refine k_conv rfl (by omega) ?_
        | refine k_max rfl rfl ?_
        | refine k_min rfl rfl ?_
        | refine k_lssT rfl rfl (by omega) ?_
        | refine k_lssF rfl rfl (by omega) ?_
        | refine k_lss rfl rfl (fun hc => ?_) (fun hc => ?_)
        | refine k_leqT rfl rfl (by omega) ?_
        | refine k_leqF rfl rfl (by omega) ?_
        | refine k_leq rfl rfl (fun hc => ?_) (fun hc => ?_)
        | refine k_gtrT rfl rfl (by omega) ?_
        | refine k_gtrF rfl rfl (by omega) ?_
        | refine k_gtr rfl rfl (fun hc => ?_) (fun hc => ?_)
        | refine k_geqT rfl rfl (by omega) ?_
        | refine k_geqF rfl rfl (by omega) ?_
        | refine k_geq rfl rfl (fun hc => ?_) (fun hc => ?_)
        | refine k_eqlT rfl rfl (by omega) ?_
        | refine k_eqlF rfl rfl (by omega) ?_
        | refine k_eql rfl rfl (fun hc => ?_) (fun hc => ?_)
        | refine k_neqT rfl rfl (by omega) ?_
        | refine k_neqF rfl rfl (by omega) ?_
        | refine k_neq rfl rfl (fun hc => ?_) (fun hc => ?_)
        | refine k_len rfl rfl ?_
        | refine k_ok rfl rfl ?_))
    all_goals first
      | exact ⟨.inr rfl, e1, rfl⟩
      | (exfalso; omega)
end Go.Proofs.YtadelcikpkhclaaDoor
