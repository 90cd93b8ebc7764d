/- Contracts: permutation, both Valids; plainly: they say the same. -/
import Derived.Test.YtadelcikpkhclaaDoorG1
namespace Go.Proofs.YtadelcikpkhclaaDoor
open Go.Ab
set_option linter.unusedVariables false
set_option linter.unusedSimpArgs false
set_option maxRecDepth 20000
attribute [local irreducible] wOps wA wSeq wBlk wRound wOpsD
variable {HK : FuncId → Option Hook}

/-! ### permutation -/
def SeenOf (n : Nat) (ys : List Int) (bs : List SV) : Prop := bs.length = n ∧ ∀ k < n, bs[k]? = some (.bool (decide ((k : Int) ∈ ys)))

theorem SeenOf.mark {n k : Nat} {ys : List Int} {bs : List SV} (hb : SeenOf n ys bs) (hk : k < n) : SeenOf n (ys ++ [(k : Int)]) (bs.set k (.bool true)) := by
  refine ⟨by simp [hb.1], fun j hj => ?_⟩
  rw [List.getElem?_set]
  split
  · rename_i he
    subst he
    rw [if_pos (by rw [hb.1]; exact hk)]
    simp
  · rename_i he
    rw [hb.2 j hj]
    have : ¬ (j : Int) = k := fun e => he (by omega)
    simp [this]

def In01 (n : Nat) (x : Int) : Prop := 0 ≤ x ∧ x < n
instance (n : Nat) (x : Int) : Decidable (In01 n x) := inferInstanceAs (Decidable (_ ∧ _))
def PermP (xs : List Int) : Prop := (∀ x ∈ xs, In01 xs.length x) ∧ xs.Nodup
instance (xs : List Int) : Decidable (PermP xs) := inferInstanceAs (Decidable (_ ∧ _))

def I34 (h0 : Heap) (s : SV) (xs : List Int) (E : Env) (h : Heap) : Prop := ∃ (i : Nat) (t : SV) (bs : List SV), i ≤ xs.length ∧ SeenOf xs.length (xs.take i) bs ∧ Own h0 h t bs ∧ Ext h0 h ∧ (∀ x ∈ xs.take i, In01 xs.length x) ∧ (xs.take i).Nodup ∧
  E = [(0, some (.sc s)), (3, some (.sc t)), (9, some (.sc s)), (10, some (.sc (.int .i64 xs.length))), (11, some (.sc (.int .i64 i)))]

theorem nodup_take_dup {xs : List Int} {i : Nat} {x : Int} (hx : xs[i]? = some x) (hm : x ∈ xs.take i) : ¬ xs.Nodup := fun hn => by
  have h1 : (xs.take (i + 1)).Nodup := hn.sublist (List.take_sublist _ _)
  rw [take_snoc hx, List.nodup_append] at h1
  exact h1.2.2 _ hm _ (by simp) rfl

theorem round34 (h0 : Heap) (s : SV) (xs : List Int) (hs : IsInts h0 s xs) (hl : xs.length ≤ 1000000) (E : Env) (h : Heap) (hI : I34 h0 s xs E h) :
    wA FT HK b34L0 (E.keep [0, 3, 9, 10, 11]) h (wRound (I34 h0 s xs) (cnt xs.length 11) (cnt xs.length 11 E h) (RFind h0 false (¬ PermP xs) 2)) := by
  obtain ⟨i, t, bs, hi, hb, ho, he, hr, hn, rfl⟩ := hI
  have hln := IsSl.len hs
  by_cases hlt : i < xs.length
  · obtain ⟨x, hx⟩ : ∃ x, xs[i]? = some x := ⟨_, List.getElem?_eq_getElem hlt⟩
    have hxm := List.mem_of_getElem? hx
    obtain ⟨id, off, cap, rfl, hrd⟩ := IsInts.at (IsSl.ext hs he) hx
    have hng : ¬ In01 xs.length x → ¬ PermP xs := fun h hp => h (hp.1 x hxm)
    by_cases hneg : x < 0
    · repeat' (first
   | refine w_seq ?_
   | refine w_seqN ?_
   | refine w_seqX ?_
   | refine w_seqR ?_
   | refine w_blk ?_
   | refine w_blkN ?_
   | refine w_blkX ?_
   | refine w_blkR ?_
   | refine w_skip ?_
   | refine w_ret ?_
   | refine w_exit ?_
   | refine w_ops ?_
   | refine w_opsD ?_
   | refine d_one ?_
   | refine d_nil ?_
   | ((refine i_cond ?_); first | refine w_condT rfl ?_ | refine w_condF rfl ?_)
   | ((refine i_nil ?_); first | refine d_same ?_ | refine d_ord ?_ | refine d_ext ⟨_, rfl⟩ ?_ | refine d_ext (extA _ _ _) ?_ | refine d_ext (by assumption) ?_ | refine w_end0 ?_ | refine w_end1 rfl ?_ | refine w_end2 rfl rfl ?_ | refine w_end3 rfl rfl rfl ?_ | refine w_end4 rfl rfl rfl rfl ?_ | refine w_end5 rfl rfl rfl rfl rfl ?_ | refine w_end6 rfl rfl rfl rfl rfl rfl ?_ | refine w_end7 rfl rfl rfl rfl rfl rfl rfl ?_ | refine w_end8 rfl rfl rfl rfl rfl rfl rfl rfl ?_ | refine w_end9 rfl rfl rfl rfl rfl rfl rfl rfl rfl ?_ | refine w_end10 rfl rfl rfl rfl rfl rfl rfl rfl rfl rfl ?_ | refine w_end11 rfl rfl rfl rfl rfl rfl rfl rfl rfl rfl rfl ?_ | refine w_end12 rfl rfl rfl rfl rfl rfl rfl rfl rfl rfl rfl rfl ?_ | refine w_end13 rfl rfl rfl rfl rfl rfl rfl rfl rfl rfl rfl rfl rfl ?_ | refine w_end14 rfl rfl rfl rfl rfl rfl rfl rfl rfl rfl rfl rfl rfl rfl ?_ | refine w_end15 rfl rfl rfl rfl rfl rfl rfl rfl rfl rfl rfl rfl rfl rfl rfl ?_ | refine w_end16 rfl rfl rfl rfl rfl rfl rfl rfl rfl rfl rfl rfl rfl rfl rfl rfl ?_)
   | ((refine i_cons ?_); first
     | refine k_len rfl hln ?_
     | refine k_idxA rfl rfl (by omega) ?_
     | refine k_ld rfl hrd ?_
     | refine k_skip rfl ?_
     | refine k_skipU rfl ?_
     | refine k_want rfl ?_
     | refine k_mv rfl ?_
     | refine k_pickT rfl rfl ?_
     | refine k_pickF rfl rfl ?_
     | refine k_notT rfl ?_
     | refine k_notF rfl ?_
     | refine k_add rfl rfl (by omega) ?_
     | refine k_sub rfl rfl (by omega) ?_
     | refine k_mul rfl rfl (by omega) ?_
     | refine k_neg rfl (by omega) ?_
     | refine k_quo rfl rfl (by omega) ?_
     | refine k_rem rfl rfl (by omega) ?_
     | refine k_conv rfl (by omega) ?_
     | refine k_max rfl rfl ?_
     | refine k_min rfl rfl ?_
     | refine k_lssT rfl rfl (by omega) ?_
     | refine k_lssF rfl rfl (by omega) ?_
     | refine k_lss rfl rfl (fun hc => ?_) (fun hc => ?_)
     | refine k_leqT rfl rfl (by omega) ?_
     | refine k_leqF rfl rfl (by omega) ?_
     | refine k_leq rfl rfl (fun hc => ?_) (fun hc => ?_)
     | refine k_gtrT rfl rfl (by omega) ?_
     | refine k_gtrF rfl rfl (by omega) ?_
     | refine k_gtr rfl rfl (fun hc => ?_) (fun hc => ?_)
     | refine k_geqT rfl rfl (by omega) ?_
     | refine k_geqF rfl rfl (by omega) ?_
     | refine k_geq rfl rfl (fun hc => ?_) (fun hc => ?_)
     | refine k_eqlT rfl rfl (by omega) ?_
     | refine k_eqlF rfl rfl (by omega) ?_
     | refine k_eql rfl rfl (fun hc => ?_) (fun hc => ?_)
     | refine k_neqT rfl rfl (by omega) ?_
     | refine k_neqF rfl rfl (by omega) ?_
     | refine k_neq rfl rfl (fun hc => ?_) (fun hc => ?_)
     | refine k_len rfl rfl ?_
     | refine k_ok rfl rfl ?_))
      exact w_roundR ⟨he, rfl, hng fun h => by unfold In01 at h; omega⟩
    · by_cases hbig : (xs.length : Int) ≤ x
      · repeat' (first
   | refine w_seq ?_
   | refine w_seqN ?_
   | refine w_seqX ?_
   | refine w_seqR ?_
   | refine w_blk ?_
   | refine w_blkN ?_
   | refine w_blkX ?_
   | refine w_blkR ?_
   | refine w_skip ?_
   | refine w_ret ?_
   | refine w_exit ?_
   | refine w_ops ?_
   | refine w_opsD ?_
   | refine d_one ?_
   | refine d_nil ?_
   | ((refine i_cond ?_); first | refine w_condT rfl ?_ | refine w_condF rfl ?_)
   | ((refine i_nil ?_); first | refine d_same ?_ | refine d_ord ?_ | refine d_ext ⟨_, rfl⟩ ?_ | refine d_ext (extA _ _ _) ?_ | refine d_ext (by assumption) ?_ | refine w_end0 ?_ | refine w_end1 rfl ?_ | refine w_end2 rfl rfl ?_ | refine w_end3 rfl rfl rfl ?_ | refine w_end4 rfl rfl rfl rfl ?_ | refine w_end5 rfl rfl rfl rfl rfl ?_ | refine w_end6 rfl rfl rfl rfl rfl rfl ?_ | refine w_end7 rfl rfl rfl rfl rfl rfl rfl ?_ | refine w_end8 rfl rfl rfl rfl rfl rfl rfl rfl ?_ | refine w_end9 rfl rfl rfl rfl rfl rfl rfl rfl rfl ?_ | refine w_end10 rfl rfl rfl rfl rfl rfl rfl rfl rfl rfl ?_ | refine w_end11 rfl rfl rfl rfl rfl rfl rfl rfl rfl rfl rfl ?_ | refine w_end12 rfl rfl rfl rfl rfl rfl rfl rfl rfl rfl rfl rfl ?_ | refine w_end13 rfl rfl rfl rfl rfl rfl rfl rfl rfl rfl rfl rfl rfl ?_ | refine w_end14 rfl rfl rfl rfl rfl rfl rfl rfl rfl rfl rfl rfl rfl rfl ?_ | refine w_end15 rfl rfl rfl rfl rfl rfl rfl rfl rfl rfl rfl rfl rfl rfl rfl ?_ | refine w_end16 rfl rfl rfl rfl rfl rfl rfl rfl rfl rfl rfl rfl rfl rfl rfl rfl ?_)
   | ((refine i_cons ?_); first
     | refine k_len rfl hln ?_
     | refine k_idxA rfl rfl (by omega) ?_
     | refine k_ld rfl hrd ?_
     | refine k_skip rfl ?_
     | refine k_skipU rfl ?_
     | refine k_want rfl ?_
     | refine k_mv rfl ?_
     | refine k_pickT rfl rfl ?_
     | refine k_pickF rfl rfl ?_
     | refine k_notT rfl ?_
     | refine k_notF rfl ?_
     | refine k_add rfl rfl (by omega) ?_
     | refine k_sub rfl rfl (by omega) ?_
     | refine k_mul rfl rfl (by omega) ?_
     | refine k_neg rfl (by omega) ?_
     | refine k_quo rfl rfl (by omega) ?_
     | refine k_rem rfl rfl (by omega) ?_
     | refine k_conv rfl (by omega) ?_
     | refine k_max rfl rfl ?_
     | refine k_min rfl rfl ?_
     | refine k_lssT rfl rfl (by omega) ?_
     | refine k_lssF rfl rfl (by omega) ?_
     | refine k_lss rfl rfl (fun hc => ?_) (fun hc => ?_)
     | refine k_leqT rfl rfl (by omega) ?_
     | refine k_leqF rfl rfl (by omega) ?_
     | refine k_leq rfl rfl (fun hc => ?_) (fun hc => ?_)
     | refine k_gtrT rfl rfl (by omega) ?_
     | refine k_gtrF rfl rfl (by omega) ?_
     | refine k_gtr rfl rfl (fun hc => ?_) (fun hc => ?_)
     | refine k_geqT rfl rfl (by omega) ?_
     | refine k_geqF rfl rfl (by omega) ?_
     | refine k_geq rfl rfl (fun hc => ?_) (fun hc => ?_)
     | refine k_eqlT rfl rfl (by omega) ?_
     | refine k_eqlF rfl rfl (by omega) ?_
     | refine k_eql rfl rfl (fun hc => ?_) (fun hc => ?_)
     | refine k_neqT rfl rfl (by omega) ?_
     | refine k_neqF rfl rfl (by omega) ?_
     | refine k_neq rfl rfl (fun hc => ?_) (fun hc => ?_)
     | refine k_len rfl rfl ?_
     | refine k_ok rfl rfl ?_))
        exact w_roundR ⟨he, rfl, hng fun h => by unfold In01 at h; omega⟩
      · obtain ⟨k, rfl⟩ : ∃ k : Nat, x = k := ⟨x.toNat, by omega⟩
        have hk : k < xs.length := by omega
        obtain ⟨id2, cap2, rfl, hrd2⟩ := Own.rd ho (hb.2 k hk)
        by_cases hm : (k : Int) ∈ xs.take i
        · rw [decide_eq_true hm] at hrd2
          have hbl := hb.1
          repeat' (first
            | refine w_seq ?_
            | refine w_seqN ?_
            | refine w_seqX ?_
            | refine w_seqR ?_
            | refine w_blk ?_
            | refine w_blkN ?_
            | refine w_blkX ?_
            | refine w_blkR ?_
            | refine w_skip ?_
            | refine w_ret ?_
            | refine w_exit ?_
            | refine w_ops ?_
            | refine w_opsD ?_
            | refine d_one ?_
            | refine d_nil ?_
            | ((refine i_cond ?_); first | refine w_condT rfl ?_ | refine w_condF rfl ?_)
            | ((refine i_nil ?_); first | refine d_same ?_ | refine d_ord ?_ | refine d_ext ⟨_, rfl⟩ ?_ | refine d_ext (extA _ _ _) ?_ | refine d_ext (by assumption) ?_ | refine w_end0 ?_ | refine w_end1 rfl ?_ | refine w_end2 rfl rfl ?_ | refine w_end3 rfl rfl rfl ?_ | refine w_end4 rfl rfl rfl rfl ?_ | refine w_end5 rfl rfl rfl rfl rfl ?_ | refine w_end6 rfl rfl rfl rfl rfl rfl ?_ | refine w_end7 rfl rfl rfl rfl rfl rfl rfl ?_ | refine w_end8 rfl rfl rfl rfl rfl rfl rfl rfl ?_ | refine w_end9 rfl rfl rfl rfl rfl rfl rfl rfl rfl ?_ | refine w_end10 rfl rfl rfl rfl rfl rfl rfl rfl rfl rfl ?_ | refine w_end11 rfl rfl rfl rfl rfl rfl rfl rfl rfl rfl rfl ?_ | refine w_end12 rfl rfl rfl rfl rfl rfl rfl rfl rfl rfl rfl rfl ?_ | refine w_end13 rfl rfl rfl rfl rfl rfl rfl rfl rfl rfl rfl rfl rfl ?_ | refine w_end14 rfl rfl rfl rfl rfl rfl rfl rfl rfl rfl rfl rfl rfl rfl ?_ | refine w_end15 rfl rfl rfl rfl rfl rfl rfl rfl rfl rfl rfl rfl rfl rfl rfl ?_ | refine w_end16 rfl rfl rfl rfl rfl rfl rfl rfl rfl rfl rfl rfl rfl rfl rfl rfl ?_)
            | ((refine i_cons ?_); first
              | refine k_len rfl hln ?_
              | refine k_idxA rfl rfl (by omega) ?_
              | refine k_ld rfl hrd ?_
              | refine k_ld rfl hrd2 ?_
              | refine k_skip rfl ?_
              | refine k_skipU rfl ?_
              | refine k_want rfl ?_
              | refine k_mv rfl ?_
              | refine k_pickT rfl rfl ?_
              | refine k_pickF rfl rfl ?_
              | refine k_notT rfl ?_
              | refine k_notF rfl ?_
              | refine k_add rfl rfl (by omega) ?_
              | refine k_sub rfl rfl (by omega) ?_
              | refine k_mul rfl rfl (by omega) ?_
              | refine k_neg rfl (by omega) ?_
              | refine k_quo rfl rfl (by omega) ?_
              | refine k_rem rfl rfl (by omega) ?_
              | refine k_conv rfl (by omega) ?_
              | refine k_max rfl rfl ?_
              | refine k_min rfl rfl ?_
              | refine k_lssT rfl rfl (by omega) ?_
              | refine k_lssF rfl rfl (by omega) ?_
              | refine k_lss rfl rfl (fun hc => ?_) (fun hc => ?_)
              | refine k_leqT rfl rfl (by omega) ?_
              | refine k_leqF rfl rfl (by omega) ?_
              | refine k_leq rfl rfl (fun hc => ?_) (fun hc => ?_)
              | refine k_gtrT rfl rfl (by omega) ?_
              | refine k_gtrF rfl rfl (by omega) ?_
              | refine k_gtr rfl rfl (fun hc => ?_) (fun hc => ?_)
              | refine k_geqT rfl rfl (by omega) ?_
              | refine k_geqF rfl rfl (by omega) ?_
              | refine k_geq rfl rfl (fun hc => ?_) (fun hc => ?_)
              | refine k_eqlT rfl rfl (by omega) ?_
              | refine k_eqlF rfl rfl (by omega) ?_
              | refine k_eql rfl rfl (fun hc => ?_) (fun hc => ?_)
              | refine k_neqT rfl rfl (by omega) ?_
              | refine k_neqF rfl rfl (by omega) ?_
              | refine k_neq rfl rfl (fun hc => ?_) (fun hc => ?_)
              | refine k_len rfl rfl ?_
              | refine k_ok rfl rfl ?_))
          exact w_roundR ⟨he, rfl, fun hp => nodup_take_dup hx hm hp.2⟩
        · rw [decide_eq_false hm] at hrd2
          have hbl := hb.1
          obtain ⟨id3, cap3, h', h3, h4, h5, h6, h7, -⟩ := Own.wr he ho (i := k) (by omega) (.bool true)
          cases h3
          repeat' (first
            | refine w_seq ?_
            | refine w_seqN ?_
            | refine w_seqX ?_
            | refine w_seqR ?_
            | refine w_blk ?_
            | refine w_blkN ?_
            | refine w_blkX ?_
            | refine w_blkR ?_
            | refine w_skip ?_
            | refine w_ret ?_
            | refine w_exit ?_
            | refine w_ops ?_
            | refine w_opsD ?_
            | refine d_one ?_
            | refine d_nil ?_
            | ((refine i_cond ?_); first | refine w_condT rfl ?_ | refine w_condF rfl ?_)
            | ((refine i_nil ?_); first | refine d_same ?_ | refine d_ord ?_ | refine d_ext ⟨_, rfl⟩ ?_ | refine d_ext (extA _ _ _) ?_ | refine d_ext (by assumption) ?_ | refine w_end0 ?_ | refine w_end1 rfl ?_ | refine w_end2 rfl rfl ?_ | refine w_end3 rfl rfl rfl ?_ | refine w_end4 rfl rfl rfl rfl ?_ | refine w_end5 rfl rfl rfl rfl rfl ?_ | refine w_end6 rfl rfl rfl rfl rfl rfl ?_ | refine w_end7 rfl rfl rfl rfl rfl rfl rfl ?_ | refine w_end8 rfl rfl rfl rfl rfl rfl rfl rfl ?_ | refine w_end9 rfl rfl rfl rfl rfl rfl rfl rfl rfl ?_ | refine w_end10 rfl rfl rfl rfl rfl rfl rfl rfl rfl rfl ?_ | refine w_end11 rfl rfl rfl rfl rfl rfl rfl rfl rfl rfl rfl ?_ | refine w_end12 rfl rfl rfl rfl rfl rfl rfl rfl rfl rfl rfl rfl ?_ | refine w_end13 rfl rfl rfl rfl rfl rfl rfl rfl rfl rfl rfl rfl rfl ?_ | refine w_end14 rfl rfl rfl rfl rfl rfl rfl rfl rfl rfl rfl rfl rfl rfl ?_ | refine w_end15 rfl rfl rfl rfl rfl rfl rfl rfl rfl rfl rfl rfl rfl rfl rfl ?_ | refine w_end16 rfl rfl rfl rfl rfl rfl rfl rfl rfl rfl rfl rfl rfl rfl rfl rfl ?_)
            | ((refine i_cons ?_); first
              | refine k_len rfl hln ?_
              | refine k_idxA rfl rfl (by omega) ?_
              | refine k_ld rfl hrd ?_
              | refine k_ld rfl hrd2 ?_
              | refine k_st rfl rfl h4 ?_
              | refine k_skip rfl ?_
              | refine k_skipU rfl ?_
              | refine k_want rfl ?_
              | refine k_mv rfl ?_
              | refine k_pickT rfl rfl ?_
              | refine k_pickF rfl rfl ?_
              | refine k_notT rfl ?_
              | refine k_notF rfl ?_
              | refine k_add rfl rfl (by omega) ?_
              | refine k_sub rfl rfl (by omega) ?_
              | refine k_mul rfl rfl (by omega) ?_
              | refine k_neg rfl (by omega) ?_
              | refine k_quo rfl rfl (by omega) ?_
              | refine k_rem rfl rfl (by omega) ?_
              | refine k_conv rfl (by omega) ?_
              | refine k_max rfl rfl ?_
              | refine k_min rfl rfl ?_
              | refine k_lssT rfl rfl (by omega) ?_
              | refine k_lssF rfl rfl (by omega) ?_
              | refine k_lss rfl rfl (fun hc => ?_) (fun hc => ?_)
              | refine k_leqT rfl rfl (by omega) ?_
              | refine k_leqF rfl rfl (by omega) ?_
              | refine k_leq rfl rfl (fun hc => ?_) (fun hc => ?_)
              | refine k_gtrT rfl rfl (by omega) ?_
              | refine k_gtrF rfl rfl (by omega) ?_
              | refine k_gtr rfl rfl (fun hc => ?_) (fun hc => ?_)
              | refine k_geqT rfl rfl (by omega) ?_
              | refine k_geqF rfl rfl (by omega) ?_
              | refine k_geq rfl rfl (fun hc => ?_) (fun hc => ?_)
              | refine k_eqlT rfl rfl (by omega) ?_
              | refine k_eqlF rfl rfl (by omega) ?_
              | refine k_eql rfl rfl (fun hc => ?_) (fun hc => ?_)
              | refine k_neqT rfl rfl (by omega) ?_
              | refine k_neqF rfl rfl (by omega) ?_
              | refine k_neq rfl rfl (fun hc => ?_) (fun hc => ?_)
              | refine k_len rfl rfl ?_
              | refine k_ok rfl rfl ?_))
          refine w_roundN ⟨i + 1, _, bs.set k (.bool true), by omega, by rw [take_snoc hx]; exact hb.mark hk, h5, h6, all_snoc hx hr ⟨by omega, by omega⟩, ?_, rfl⟩ (by simp [cnt, Env.get]; omega)
          rw [take_snoc hx, List.nodup_append]
          exact ⟨hn, by simp, fun a ha b hb' => by simp at hb'; subst hb'; exact fun e => hm (e ▸ ha)⟩
  · repeat' (first
   | refine w_seq ?_
   | refine w_seqN ?_
   | refine w_seqX ?_
   | refine w_seqR ?_
   | refine w_blk ?_
   | refine w_blkN ?_
   | refine w_blkX ?_
   | refine w_blkR ?_
   | refine w_skip ?_
   | refine w_ret ?_
   | refine w_exit ?_
   | refine w_ops ?_
   | refine w_opsD ?_
   | refine d_one ?_
   | refine d_nil ?_
   | ((refine i_cond ?_); first | refine w_condT rfl ?_ | refine w_condF rfl ?_)
   | ((refine i_nil ?_); first | refine d_same ?_ | refine d_ord ?_ | refine d_ext ⟨_, rfl⟩ ?_ | refine d_ext (extA _ _ _) ?_ | refine d_ext (by assumption) ?_ | refine w_end0 ?_ | refine w_end1 rfl ?_ | refine w_end2 rfl rfl ?_ | refine w_end3 rfl rfl rfl ?_ | refine w_end4 rfl rfl rfl rfl ?_ | refine w_end5 rfl rfl rfl rfl rfl ?_ | refine w_end6 rfl rfl rfl rfl rfl rfl ?_ | refine w_end7 rfl rfl rfl rfl rfl rfl rfl ?_ | refine w_end8 rfl rfl rfl rfl rfl rfl rfl rfl ?_ | refine w_end9 rfl rfl rfl rfl rfl rfl rfl rfl rfl ?_ | refine w_end10 rfl rfl rfl rfl rfl rfl rfl rfl rfl rfl ?_ | refine w_end11 rfl rfl rfl rfl rfl rfl rfl rfl rfl rfl rfl ?_ | refine w_end12 rfl rfl rfl rfl rfl rfl rfl rfl rfl rfl rfl rfl ?_ | refine w_end13 rfl rfl rfl rfl rfl rfl rfl rfl rfl rfl rfl rfl rfl ?_ | refine w_end14 rfl rfl rfl rfl rfl rfl rfl rfl rfl rfl rfl rfl rfl rfl ?_ | refine w_end15 rfl rfl rfl rfl rfl rfl rfl rfl rfl rfl rfl rfl rfl rfl rfl ?_ | refine w_end16 rfl rfl rfl rfl rfl rfl rfl rfl rfl rfl rfl rfl rfl rfl rfl rfl ?_)
   | ((refine i_cons ?_); first
     | refine k_skip rfl ?_
     | refine k_skipU rfl ?_
     | refine k_want rfl ?_
     | refine k_mv rfl ?_
     | refine k_pickT rfl rfl ?_
     | refine k_pickF rfl rfl ?_
     | refine k_notT rfl ?_
     | refine k_notF rfl ?_
     | refine k_add rfl rfl (by omega) ?_
     | refine k_sub rfl rfl (by omega) ?_
     | refine k_mul rfl rfl (by omega) ?_
     | refine k_neg rfl (by omega) ?_
     | refine k_quo rfl rfl (by omega) ?_
     | refine k_rem rfl rfl (by omega) ?_
     | refine k_conv rfl (by omega) ?_
     | refine k_max rfl rfl ?_
     | refine k_min rfl rfl ?_
     | refine k_lssT rfl rfl (by omega) ?_
     | refine k_lssF rfl rfl (by omega) ?_
     | refine k_lss rfl rfl (fun hc => ?_) (fun hc => ?_)
     | refine k_leqT rfl rfl (by omega) ?_
     | refine k_leqF rfl rfl (by omega) ?_
     | refine k_leq rfl rfl (fun hc => ?_) (fun hc => ?_)
     | refine k_gtrT rfl rfl (by omega) ?_
     | refine k_gtrF rfl rfl (by omega) ?_
     | refine k_gtr rfl rfl (fun hc => ?_) (fun hc => ?_)
     | refine k_geqT rfl rfl (by omega) ?_
     | refine k_geqF rfl rfl (by omega) ?_
     | refine k_geq rfl rfl (fun hc => ?_) (fun hc => ?_)
     | refine k_eqlT rfl rfl (by omega) ?_
     | refine k_eqlF rfl rfl (by omega) ?_
     | refine k_eql rfl rfl (fun hc => ?_) (fun hc => ?_)
     | refine k_neqT rfl rfl (by omega) ?_
     | refine k_neqF rfl rfl (by omega) ?_
     | refine k_neq rfl rfl (fun hc => ?_) (fun hc => ?_)
     | refine k_len rfl rfl ?_
     | refine k_ok rfl rfl ?_))
    have h1 : xs.take i = xs := List.take_of_length_le (by omega)
    rw [h1] at hr hn
    exact w_roundX ⟨he, rfl, fun hc => hc ⟨hr, hn⟩⟩

theorem seen_start (n : Nat) : SeenOf n [] (List.replicate n (.bool false)) := ⟨by simp, fun k hk => by simp [List.getElem?_replicate, hk]⟩

theorem call34 (hk : HK 34 = none) (h0 : Heap) (s : SV) (xs : List Int) (hs : IsInts h0 s xs) (hl : xs.length ≤ 1000000) :
    ∃ v h', Cal FT HK 34 [.sc s] h0 v h' ∧ Ext h0 h' ∧ v = .sc (.bool (decide (PermP xs))) := by
  refine Cal.of (F := a34) hk rfl rfl ?_
  have hln := IsSl.len hs
  have hbd : (0 : Int) ≤ (xs.length : Int) ∧ (xs.length : Int) ≤ (xs.length : Int) ∧ (xs.length : Int) * (1 + 1 : Nat) ≤ bigN := by simp [bigN]; omega
  repeat' (first
    | refine w_seq ?_
    | refine w_seqN ?_
    | refine w_seqX ?_
    | refine w_seqR ?_
    | refine w_blk ?_
    | refine w_blkN ?_
    | refine w_blkX ?_
    | refine w_blkR ?_
    | refine w_skip ?_
    | refine w_ret ?_
    | refine w_exit ?_
    | refine w_ops ?_
    | refine w_opsD ?_
    | refine d_one ?_
    | refine d_nil ?_
    | ((refine i_cond ?_); first | refine w_condT rfl ?_ | refine w_condF rfl ?_)
    | ((refine i_nil ?_); first | refine d_same ?_ | refine d_ord ?_ | refine d_ext ⟨_, rfl⟩ ?_ | refine d_ext (extA _ _ _) ?_ | refine d_ext (by assumption) ?_ | refine w_end0 ?_ | refine w_end1 rfl ?_ | refine w_end2 rfl rfl ?_ | refine w_end3 rfl rfl rfl ?_ | refine w_end4 rfl rfl rfl rfl ?_ | refine w_end5 rfl rfl rfl rfl rfl ?_ | refine w_end6 rfl rfl rfl rfl rfl rfl ?_ | refine w_end7 rfl rfl rfl rfl rfl rfl rfl ?_ | refine w_end8 rfl rfl rfl rfl rfl rfl rfl rfl ?_ | refine w_end9 rfl rfl rfl rfl rfl rfl rfl rfl rfl ?_ | refine w_end10 rfl rfl rfl rfl rfl rfl rfl rfl rfl rfl ?_ | refine w_end11 rfl rfl rfl rfl rfl rfl rfl rfl rfl rfl rfl ?_ | refine w_end12 rfl rfl rfl rfl rfl rfl rfl rfl rfl rfl rfl rfl ?_ | refine w_end13 rfl rfl rfl rfl rfl rfl rfl rfl rfl rfl rfl rfl rfl ?_ | refine w_end14 rfl rfl rfl rfl rfl rfl rfl rfl rfl rfl rfl rfl rfl rfl ?_ | refine w_end15 rfl rfl rfl rfl rfl rfl rfl rfl rfl rfl rfl rfl rfl rfl rfl ?_ | refine w_end16 rfl rfl rfl rfl rfl rfl rfl rfl rfl rfl rfl rfl rfl rfl rfl rfl ?_)
    | ((refine i_cons ?_); first
      | refine k_len rfl hln ?_
      | (refine k_mkO (Ext.refl h0) rfl rfl hbd ?_; intro t h1 ho e1 e2 l1)
      | refine k_skip rfl ?_
      | refine k_skipU rfl ?_
      | refine k_want rfl ?_
      | refine k_mv rfl ?_
      | refine k_pickT rfl rfl ?_
      | refine k_pickF rfl rfl ?_
      | refine k_notT rfl ?_
      | refine k_notF rfl ?_
      | refine k_add rfl rfl (by omega) ?_
      | refine k_sub rfl rfl (by omega) ?_
      | refine k_mul rfl rfl (by omega) ?_
      | refine k_neg rfl (by omega) ?_
      | refine k_quo rfl rfl (by omega) ?_
      | refine k_rem rfl rfl (by omega) ?_
      | refine k_conv rfl (by omega) ?_
      | refine k_max rfl rfl ?_
      | refine k_min rfl rfl ?_
      | refine k_lssT rfl rfl (by omega) ?_
      | refine k_lssF rfl rfl (by omega) ?_
      | refine k_lss rfl rfl (fun hc => ?_) (fun hc => ?_)
      | refine k_leqT rfl rfl (by omega) ?_
      | refine k_leqF rfl rfl (by omega) ?_
      | refine k_leq rfl rfl (fun hc => ?_) (fun hc => ?_)
      | refine k_gtrT rfl rfl (by omega) ?_
      | refine k_gtrF rfl rfl (by omega) ?_
      | refine k_gtr rfl rfl (fun hc => ?_) (fun hc => ?_)
      | refine k_geqT rfl rfl (by omega) ?_
      | refine k_geqF rfl rfl (by omega) ?_
      | refine k_geq rfl rfl (fun hc => ?_) (fun hc => ?_)
      | refine k_eqlT rfl rfl (by omega) ?_
      | refine k_eqlF rfl rfl (by omega) ?_
      | refine k_eql rfl rfl (fun hc => ?_) (fun hc => ?_)
      | refine k_neqT rfl rfl (by omega) ?_
      | refine k_neqF rfl rfl (by omega) ?_
      | refine k_neq rfl rfl (fun hc => ?_) (fun hc => ?_)
      | refine k_len rfl rfl ?_
      | refine k_ok rfl rfl ?_))
  refine w_loop (I34 h0 s xs) (cnt xs.length 11) (RFind h0 false (¬ PermP xs) 2) ⟨0, t, _, Nat.zero_le _, by simpa using seen_start xs.length, by simpa using ho, e1, by simp, by simp, rfl⟩ (round34 h0 s xs hs hl) ?_
  rintro ex E' h' ⟨he, hR⟩
  cases ex with
  | nm => exact hR.elim
  | ex i =>
    obtain ⟨rfl, hp⟩ := hR
    repeat' (first
      | refine w_seq ?_
      | refine w_seqN ?_
      | refine w_seqX ?_
      | refine w_seqR ?_
      | refine w_blk ?_
      | refine w_blkN ?_
      | refine w_blkX ?_
      | refine w_blkR ?_
      | refine w_skip ?_
      | refine w_ret ?_
      | refine w_exit ?_
      | refine w_ops ?_
      | refine w_opsD ?_
      | refine d_one ?_
      | refine d_nil ?_
      | ((refine i_cond ?_); first | refine w_condT rfl ?_ | refine w_condF rfl ?_)
      | ((refine i_nil ?_); first | refine d_same ?_ | refine d_ord ?_ | refine d_ext ⟨_, rfl⟩ ?_ | refine d_ext (extA _ _ _) ?_ | refine d_ext (by assumption) ?_ | refine w_end0 ?_ | refine w_end1 rfl ?_ | refine w_end2 rfl rfl ?_ | refine w_end3 rfl rfl rfl ?_ | refine w_end4 rfl rfl rfl rfl ?_ | refine w_end5 rfl rfl rfl rfl rfl ?_ | refine w_end6 rfl rfl rfl rfl rfl rfl ?_ | refine w_end7 rfl rfl rfl rfl rfl rfl rfl ?_ | refine w_end8 rfl rfl rfl rfl rfl rfl rfl rfl ?_ | refine w_end9 rfl rfl rfl rfl rfl rfl rfl rfl rfl ?_ | refine w_end10 rfl rfl rfl rfl rfl rfl rfl rfl rfl rfl ?_ | refine w_end11 rfl rfl rfl rfl rfl rfl rfl rfl rfl rfl rfl ?_ | refine w_end12 rfl rfl rfl rfl rfl rfl rfl rfl rfl rfl rfl rfl ?_ | refine w_end13 rfl rfl rfl rfl rfl rfl rfl rfl rfl rfl rfl rfl rfl ?_ | refine w_end14 rfl rfl rfl rfl rfl rfl rfl rfl rfl rfl rfl rfl rfl rfl ?_ | refine w_end15 rfl rfl rfl rfl rfl rfl rfl rfl rfl rfl rfl rfl rfl rfl rfl ?_ | refine w_end16 rfl rfl rfl rfl rfl rfl rfl rfl rfl rfl rfl rfl rfl rfl rfl rfl ?_)
      | ((refine i_cons ?_); first
        | refine k_skip rfl ?_
        | refine k_skipU rfl ?_
        | refine k_want rfl ?_
        | refine k_mv rfl ?_
        | refine k_pickT rfl rfl ?_
        | refine k_pickF rfl rfl ?_
        | refine k_notT rfl ?_
        | refine k_notF rfl ?_
        | refine k_add rfl rfl (by omega) ?_
        | refine k_sub rfl rfl (by omega) ?_
        | refine k_mul rfl rfl (by omega) ?_
        | refine k_neg rfl (by omega) ?_
        | refine k_quo rfl rfl (by omega) ?_
        | refine k_rem rfl rfl (by omega) ?_
        | refine k_conv rfl (by omega) ?_
        | refine k_max rfl rfl ?_
        | refine k_min rfl rfl ?_
        | refine k_lssT rfl rfl (by omega) ?_
        | refine k_lssF rfl rfl (by omega) ?_
        | refine k_lss rfl rfl (fun hc => ?_) (fun hc => ?_)
        | refine k_leqT rfl rfl (by omega) ?_
        | refine k_leqF rfl rfl (by omega) ?_
        | refine k_leq rfl rfl (fun hc => ?_) (fun hc => ?_)
        | refine k_gtrT rfl rfl (by omega) ?_
        | refine k_gtrF rfl rfl (by omega) ?_
        | refine k_gtr rfl rfl (fun hc => ?_) (fun hc => ?_)
        | refine k_geqT rfl rfl (by omega) ?_
        | refine k_geqF rfl rfl (by omega) ?_
        | refine k_geq rfl rfl (fun hc => ?_) (fun hc => ?_)
        | refine k_eqlT rfl rfl (by omega) ?_
        | refine k_eqlF rfl rfl (by omega) ?_
        | refine k_eql rfl rfl (fun hc => ?_) (fun hc => ?_)
        | refine k_neqT rfl rfl (by omega) ?_
        | refine k_neqF rfl rfl (by omega) ?_
        | refine k_neq rfl rfl (fun hc => ?_) (fun hc => ?_)
        | refine k_len rfl rfl ?_
        | refine k_ok rfl rfl ?_))
    exact ⟨.inr rfl, he, by rw [decide_eq_true (Classical.not_not.1 hp)]; rfl⟩
  | rt =>
    obtain ⟨rfl, hp⟩ := hR
    repeat' (first
      | refine w_seq ?_
      | refine w_seqN ?_
      | refine w_seqX ?_
      | refine w_seqR ?_
      | refine w_blk ?_
      | refine w_blkN ?_
      | refine w_blkX ?_
      | refine w_blkR ?_
      | refine w_skip ?_
      | refine w_ret ?_
      | refine w_exit ?_
      | refine w_ops ?_
      | refine w_opsD ?_
      | refine d_one ?_
      | refine d_nil ?_
      | ((refine i_cond ?_); first | refine w_condT rfl ?_ | refine w_condF rfl ?_)
      | ((refine i_nil ?_); first | refine d_same ?_ | refine d_ord ?_ | refine d_ext ⟨_, rfl⟩ ?_ | refine d_ext (extA _ _ _) ?_ | refine d_ext (by assumption) ?_ | refine w_end0 ?_ | refine w_end1 rfl ?_ | refine w_end2 rfl rfl ?_ | refine w_end3 rfl rfl rfl ?_ | refine w_end4 rfl rfl rfl rfl ?_ | refine w_end5 rfl rfl rfl rfl rfl ?_ | refine w_end6 rfl rfl rfl rfl rfl rfl ?_ | refine w_end7 rfl rfl rfl rfl rfl rfl rfl ?_ | refine w_end8 rfl rfl rfl rfl rfl rfl rfl rfl ?_ | refine w_end9 rfl rfl rfl rfl rfl rfl rfl rfl rfl ?_ | refine w_end10 rfl rfl rfl rfl rfl rfl rfl rfl rfl rfl ?_ | refine w_end11 rfl rfl rfl rfl rfl rfl rfl rfl rfl rfl rfl ?_ | refine w_end12 rfl rfl rfl rfl rfl rfl rfl rfl rfl rfl rfl rfl ?_ | refine w_end13 rfl rfl rfl rfl rfl rfl rfl rfl rfl rfl rfl rfl rfl ?_ | refine w_end14 rfl rfl rfl rfl rfl rfl rfl rfl rfl rfl rfl rfl rfl rfl ?_ | refine w_end15 rfl rfl rfl rfl rfl rfl rfl rfl rfl rfl rfl rfl rfl rfl rfl ?_ | refine w_end16 rfl rfl rfl rfl rfl rfl rfl rfl rfl rfl rfl rfl rfl rfl rfl rfl ?_)
      | ((refine i_cons ?_); first
        | refine k_skip rfl ?_
        | refine k_skipU rfl ?_
        | refine k_want rfl ?_
        | refine k_mv rfl ?_
        | refine k_pickT rfl rfl ?_
        | refine k_pickF rfl rfl ?_
        | refine k_notT rfl ?_
        | refine k_notF rfl ?_
        | refine k_add rfl rfl (by omega) ?_
        | refine k_sub rfl rfl (by omega) ?_
        | refine k_mul rfl rfl (by omega) ?_
        | refine k_neg rfl (by omega) ?_
        | refine k_quo rfl rfl (by omega) ?_
        | refine k_rem rfl rfl (by omega) ?_
        | refine k_conv rfl (by omega) ?_
        | refine k_max rfl rfl ?_
        | refine k_min rfl rfl ?_
        | refine k_lssT rfl rfl (by omega) ?_
        | refine k_lssF rfl rfl (by omega) ?_
        | refine k_lss rfl rfl (fun hc => ?_) (fun hc => ?_)
        | refine k_leqT rfl rfl (by omega) ?_
        | refine k_leqF rfl rfl (by omega) ?_
        | refine k_leq rfl rfl (fun hc => ?_) (fun hc => ?_)
        | refine k_gtrT rfl rfl (by omega) ?_
        | refine k_gtrF rfl rfl (by omega) ?_
        | refine k_gtr rfl rfl (fun hc => ?_) (fun hc => ?_)
        | refine k_geqT rfl rfl (by omega) ?_
        | refine k_geqF rfl rfl (by omega) ?_
        | refine k_geq rfl rfl (fun hc => ?_) (fun hc => ?_)
        | refine k_eqlT rfl rfl (by omega) ?_
        | refine k_eqlF rfl rfl (by omega) ?_
        | refine k_eql rfl rfl (fun hc => ?_) (fun hc => ?_)
        | refine k_neqT rfl rfl (by omega) ?_
        | refine k_neqF rfl rfl (by omega) ?_
        | refine k_neq rfl rfl (fun hc => ?_) (fun hc => ?_)
        | refine k_len rfl rfl ?_
        | refine k_ok rfl rfl ?_))
    exact ⟨.inr rfl, he, by rw [decide_eq_false hp]; rfl⟩

/-! ### A permutation, said in two ways -/
theorem fit_len {α : Type} [DecidableEq α] : ∀ {ys T : List α}, ys.Nodup → (∀ y ∈ ys, y ∈ T) → ys.length ≤ T.length
  | [], _, _, _ => by simp
  | y :: ys, T, hn, hs => by
    have hy := hs y (by simp)
    have h1 : ∀ z ∈ ys, z ∈ T.erase y := fun z hz => by
      have hne : z ≠ y := fun he => by subst he; exact (List.nodup_cons.1 hn).1 hz
      exact (List.mem_erase_of_ne hne).2 (hs z (by simp [hz]))
    have h2 := fit_len (List.nodup_cons.1 hn).2 h1
    rw [List.length_erase_of_mem hy] at h2
    have := List.length_pos_of_mem hy
    simp; omega

/-- 0, 1, .. as integers. -/
def upto (n : Nat) : List Int := (List.range n).map Int.ofNat
theorem upto_len (n : Nat) : (upto n).length = n := by simp [upto]
theorem upto_mem {n : Nat} {x : Int} : x ∈ upto n ↔ In01 n x := by
  simp only [upto, List.mem_map, List.mem_range, In01]
  constructor
  · rintro ⟨a, ha, rfl⟩; simp; omega
  · rintro ⟨h1, h2⟩; exact ⟨x.toNat, by omega, by simp; omega⟩
theorem upto_nodup (n : Nat) : (upto n).Nodup := by
  unfold upto List.Nodup
  rw [List.pairwise_map]
  exact List.Pairwise.imp (fun h => by simp; omega) (List.nodup_range (n := n))

theorem perm_iff (xs : List Int) : PermP xs ↔ ∀ k < xs.length, (k : Int) ∈ xs := by
  constructor
  · rintro ⟨h1, h2⟩ k hk
    refine Classical.byContradiction fun hc => ?_
    have h3 : ∀ y ∈ xs, y ∈ (upto xs.length).erase (k : Int) := fun y hy => by
      have hne : y ≠ k := by rintro rfl; exact hc hy
      exact (List.mem_erase_of_ne hne).2 (upto_mem.2 (h1 y hy))
    have h4 := fit_len h2 h3
    rw [List.length_erase_of_mem (upto_mem.2 ⟨by omega, by omega⟩), upto_len] at h4
    omega
  · intro h
    have hsub : ∀ v ∈ upto xs.length, v ∈ xs := fun v hv => by
      obtain ⟨h1, h2⟩ := upto_mem.1 hv
      have := h v.toNat (by omega)
      rwa [Int.toNat_of_nonneg h1] at this
    constructor
    · intro x hx
      refine upto_mem.1 (Classical.byContradiction fun hc => ?_)
      have h5 : ∀ v ∈ upto xs.length, v ∈ xs.erase x := fun v hv => by
        have hne : v ≠ x := by rintro rfl; exact hc hv
        exact (List.mem_erase_of_ne hne).2 (hsub v hv)
      have h6 := fit_len (upto_nodup _) h5
      rw [List.length_erase_of_mem hx, upto_len] at h6
      have := List.length_pos_of_mem hx
      omega
    · refine List.nodup_iff_count.2 fun a => Classical.byContradiction fun hc => ?_
      have h5 : ∀ v ∈ upto xs.length, v ∈ xs.erase a := fun v hv => by
        by_cases hva : v = a
        · subst hva
          exact List.count_pos_iff.1 (by rw [List.count_erase_self]; omega)
        · exact (List.mem_erase_of_ne hva).2 (hsub v hv)
      have h6 := fit_len (upto_nodup _) h5
      have ha : a ∈ xs := List.count_pos_iff.1 (by omega)
      rw [List.length_erase_of_mem ha, upto_len] at h6
      have := List.length_pos_of_mem ha
      omega
end Go.Proofs.YtadelcikpkhclaaDoor
