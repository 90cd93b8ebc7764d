/- Contracts: the cyclic core's loops. -/
import Derived.Test.YtgmfjhmphiiifaaDoorR2
namespace Go.Proofs.YtgmfjhmphiiifaaDoor
open Go.Ab
set_option linter.unusedVariables false
set_option maxRecDepth 20000
attribute [local irreducible] wOps wA wSeq wBlk wRound wOpsD
variable {HK : FuncId → Option Hook}

/-- The ends of a word cancel. -/
def Ends (st : List Int) : Prop := 2 ≤ st.length ∧ st[0]?.getD 0 = -(st[st.length - 1]?.getD 0)
instance (st : List Int) : Decidable (Ends st) := inferInstanceAs (Decidable (_ ∧ _))
def inner (st : List Int) : List Int := (st.drop 1).take (st.length - 1 - 1)
theorem inner_len {st : List Int} : (inner st).length = st.length - 2 := by simp [inner]; omega
/-- The cyclic core. -/
def core (st : List Int) : List Int := if h : Ends st then core (inner st) else st
termination_by st.length
decreasing_by rw [inner_len]; have := h.1; omega
theorem core_in {st : List Int} (h : Ends st) : core (inner st) = core st := by
  conv => rhs; unfold core
  rw [dif_pos h]
theorem core_out {st : List Int} (h : ¬ Ends st) : core st = st := by
  unfold core
  rw [dif_neg h]
theorem mem_inner {st : List Int} {x : Int} (h : x ∈ inner st) : x ∈ st := List.mem_of_mem_drop (List.mem_of_mem_take h)
theorem core_mem : ∀ (n : Nat) (st : List Int), st.length ≤ n → (core st).length ≤ st.length ∧ ∀ x ∈ core st, x ∈ st
  | 0, st, h => by
    have : ¬ Ends st := fun h' => by have := h'.1; omega
    rw [core_out this]
    exact ⟨Nat.le_refl _, fun x hx => hx⟩
  | n + 1, st, h => by
    by_cases he : Ends st
    · rw [← core_in he]
      have hil := inner_len (st := st)
      obtain ⟨h1, h2⟩ := core_mem n (inner st) (by have := he.1; omega)
      exact ⟨by omega, fun x hx => mem_inner (h2 x hx)⟩
    · rw [core_out he]
      exact ⟨Nat.le_refl _, fun x hx => hx⟩

def mu21 (E : Env) (_ : Heap) : Nat := match E.get 3 with
  | some (.sc s) => lenSV s
  | _ => 0
theorem lenSV_sl {h : Heap} {s : SV} {n : Nat} {vs : List SV} (ho : IsSl h s 1 n vs) : lenSV s = n := by
  rcases ho with ⟨rfl, h, _⟩ | ⟨id, off, cap, b, rfl, _⟩
  · exact h.symm
  · rfl
def I21 (h0 : Heap) (x : List Int) (E : Env) (h : Heap) : Prop := ∃ (st : List Int) (s : SV), core st = core x ∧ st.length ≤ x.length ∧ (∀ y ∈ st, y ∈ x) ∧ IsInts h0 s st ∧ h = h0 ∧ E = [(3, some (.sc s))]
def R21 (h0 : Heap) (x : List Int) (t : Nat) (ex : Ex) (E : Env) (h : Heap) : Prop := ex = .ex 0 ∧ h = h0 ∧ ∃ s, IsInts h0 s (core x) ∧ E = [(3, some (.sc s)), (t, some (.sc (.bool false)))]

set_option maxHeartbeats 1000000 in
theorem round21 (h0 : Heap) (x : List Int) (hl : x.length ≤ 500) (hr : ∀ y ∈ x, -1000000 ≤ y ∧ y ≤ 1000000) (E : Env) (h : Heap) (hI : I21 h0 x E h) :
    wA FT HK b21L0 (E.keep [3]) h (wRound (I21 h0 x) mu21 (mu21 E h) (R21 h0 x 23)) := by
  obtain ⟨st, s, hc, hlen, hm, hs, rfl, rfl⟩ := hI
  have hln := IsSl.len hs
  by_cases h2 : 2 ≤ st.length
  · obtain ⟨p, hp⟩ : ∃ p, st[0]? = some p := ⟨_, List.getElem?_eq_getElem (by omega)⟩
    obtain ⟨q, hq⟩ : ∃ q, st[st.length - 1]? = some q := ⟨_, List.getElem?_eq_getElem (by omega)⟩
    have hpr := hr p (hm p (List.mem_of_getElem? hp))
    have hqr := hr q (hm q (List.mem_of_getElem? hq))
    obtain ⟨p1, hp1, hp2, -⟩ := IsInts.part (l := 1) (u := st.length - 1) hs (by omega) (by omega)
    have hsv1 := lenSV_sl hs
    obtain ⟨id, off, cap, rfl, r1⟩ := IsInts.at hs hp
    obtain ⟨id2, off2, cap2, he2, r2⟩ := IsInts.at hs hq
    obtain ⟨rfl, rfl, -, rfl⟩ := SV.slc.inj he2
    have hj : ((st.length : Int) - 1).toNat = st.length - 1 := by omega
    rw [← hj] at r2 hp1
    by_cases he : p = -q
    · have hE : Ends st := ⟨h2, by rw [hp, hq]; exact he⟩
      repeat' (first
        | refine w_seq ?_
        | refine w_seqN ?_
        | refine w_seqX ?_
        | refine w_seqR ?_
        | refine w_blk ?_
        | refine w_blkN ?_
        | refine w_blkX ?_
        | refine w_blkR ?_
        | refine w_skip ?_
        | refine w_ret ?_
        | refine w_exit ?_
        | refine w_ops ?_
        | refine w_opsD ?_
        | refine d_one ?_
        | refine d_nil ?_
        | ((refine i_cond ?_); first | refine w_condT rfl ?_ | refine w_condF rfl ?_)
        | ((refine i_nil ?_); first | refine d_same ?_ | refine d_ord ?_ | refine d_ext ⟨_, rfl⟩ ?_ | refine d_ext (by assumption) ?_ | refine w_end0 ?_ | refine w_end1 rfl ?_ | refine w_end2 rfl rfl ?_ | refine w_end3 rfl rfl rfl ?_ | refine w_end4 rfl rfl rfl rfl ?_ | refine w_end5 rfl rfl rfl rfl rfl ?_ | refine w_end6 rfl rfl rfl rfl rfl rfl ?_ | refine w_end7 rfl rfl rfl rfl rfl rfl rfl ?_ | refine w_end8 rfl rfl rfl rfl rfl rfl rfl rfl ?_ | refine w_end9 rfl rfl rfl rfl rfl rfl rfl rfl rfl ?_ | refine w_end10 rfl rfl rfl rfl rfl rfl rfl rfl rfl rfl ?_ | refine w_end11 rfl rfl rfl rfl rfl rfl rfl rfl rfl rfl rfl ?_ | refine w_end12 rfl rfl rfl rfl rfl rfl rfl rfl rfl rfl rfl rfl ?_ | refine w_end13 rfl rfl rfl rfl rfl rfl rfl rfl rfl rfl rfl rfl rfl ?_ | refine w_end14 rfl rfl rfl rfl rfl rfl rfl rfl rfl rfl rfl rfl rfl rfl ?_ | refine w_end15 rfl rfl rfl rfl rfl rfl rfl rfl rfl rfl rfl rfl rfl rfl rfl ?_ | refine w_end16 rfl rfl rfl rfl rfl rfl rfl rfl rfl rfl rfl rfl rfl rfl rfl rfl ?_)
        | ((refine i_cons ?_); first
          | refine k_len rfl hln ?_
          | refine k_idxA rfl rfl (by omega) ?_
          | refine k_ld rfl r1 ?_
          | refine k_ld rfl r2 ?_
          | refine k_span rfl hln rfl rfl (by omega) hp1 ?_
          | refine k_skip rfl ?_
          | refine k_want rfl ?_
          | refine k_mv rfl ?_
          | refine k_pickT rfl rfl ?_
          | refine k_pickF rfl rfl ?_
          | refine k_notT rfl ?_
          | refine k_notF rfl ?_
          | refine k_add rfl rfl (by omega) ?_
          | refine k_sub rfl rfl (by omega) ?_
          | refine k_mul rfl rfl (by omega) ?_
          | refine k_neg rfl (by omega) ?_
          | refine k_quo rfl rfl (by omega) ?_
          | refine k_rem rfl rfl (by omega) ?_
          | refine k_conv rfl (by omega) ?_
          | refine k_max rfl rfl ?_
          | refine k_min rfl rfl ?_
          | refine k_lssT rfl rfl (by omega) ?_
          | refine k_lssF rfl rfl (by omega) ?_
          | refine k_lss rfl rfl (fun hc => ?_) (fun hc => ?_)
          | refine k_leqT rfl rfl (by omega) ?_
          | refine k_leqF rfl rfl (by omega) ?_
          | refine k_leq rfl rfl (fun hc => ?_) (fun hc => ?_)
          | refine k_gtrT rfl rfl (by omega) ?_
          | refine k_gtrF rfl rfl (by omega) ?_
          | refine k_gtr rfl rfl (fun hc => ?_) (fun hc => ?_)
          | refine k_geqT rfl rfl (by omega) ?_
          | refine k_geqF rfl rfl (by omega) ?_
          | refine k_geq rfl rfl (fun hc => ?_) (fun hc => ?_)
          | refine k_eqlT rfl rfl (by omega) ?_
          | refine k_eqlF rfl rfl (by omega) ?_
          | refine k_eql rfl rfl (fun hc => ?_) (fun hc => ?_)
          | refine k_neqT rfl rfl (by omega) ?_
          | refine k_neqF rfl rfl (by omega) ?_
          | refine k_neq rfl rfl (fun hc => ?_) (fun hc => ?_)
          | refine k_len rfl rfl ?_
          | refine k_ok rfl rfl ?_))
      all_goals first
        | (exfalso; omega)
        | skip
      have hs1 := lenSV_sl hp2
      have hi1 := inner_len (st := st)
      refine w_roundN ⟨inner st, p1, by rw [core_in hE]; exact hc, by omega, fun y hy => hm y (mem_inner hy), hp2, rfl, rfl⟩ ?_
      show lenSV p1 < lenSV (.slc id off st.length cap)
      rw [hs1, hsv1]
      show (inner st).length < st.length
      omega
    · have hE : ¬ Ends st := fun h => he (by have := h.2; rw [hp, hq] at this; exact this)
      repeat' (first
        | refine w_seq ?_
        | refine w_seqN ?_
        | refine w_seqX ?_
        | refine w_seqR ?_
        | refine w_blk ?_
        | refine w_blkN ?_
        | refine w_blkX ?_
        | refine w_blkR ?_
        | refine w_skip ?_
        | refine w_ret ?_
        | refine w_exit ?_
        | refine w_ops ?_
        | refine w_opsD ?_
        | refine d_one ?_
        | refine d_nil ?_
        | ((refine i_cond ?_); first | refine w_condT rfl ?_ | refine w_condF rfl ?_)
        | ((refine i_nil ?_); first | refine d_same ?_ | refine d_ord ?_ | refine d_ext ⟨_, rfl⟩ ?_ | refine d_ext (by assumption) ?_ | refine w_end0 ?_ | refine w_end1 rfl ?_ | refine w_end2 rfl rfl ?_ | refine w_end3 rfl rfl rfl ?_ | refine w_end4 rfl rfl rfl rfl ?_ | refine w_end5 rfl rfl rfl rfl rfl ?_ | refine w_end6 rfl rfl rfl rfl rfl rfl ?_ | refine w_end7 rfl rfl rfl rfl rfl rfl rfl ?_ | refine w_end8 rfl rfl rfl rfl rfl rfl rfl rfl ?_ | refine w_end9 rfl rfl rfl rfl rfl rfl rfl rfl rfl ?_ | refine w_end10 rfl rfl rfl rfl rfl rfl rfl rfl rfl rfl ?_ | refine w_end11 rfl rfl rfl rfl rfl rfl rfl rfl rfl rfl rfl ?_ | refine w_end12 rfl rfl rfl rfl rfl rfl rfl rfl rfl rfl rfl rfl ?_ | refine w_end13 rfl rfl rfl rfl rfl rfl rfl rfl rfl rfl rfl rfl rfl ?_ | refine w_end14 rfl rfl rfl rfl rfl rfl rfl rfl rfl rfl rfl rfl rfl rfl ?_ | refine w_end15 rfl rfl rfl rfl rfl rfl rfl rfl rfl rfl rfl rfl rfl rfl rfl ?_ | refine w_end16 rfl rfl rfl rfl rfl rfl rfl rfl rfl rfl rfl rfl rfl rfl rfl rfl ?_)
        | ((refine i_cons ?_); first
          | refine k_len rfl hln ?_
          | refine k_idxA rfl rfl (by omega) ?_
          | refine k_ld rfl r1 ?_
          | refine k_ld rfl r2 ?_
          | refine k_skip rfl ?_
          | refine k_want rfl ?_
          | refine k_mv rfl ?_
          | refine k_pickT rfl rfl ?_
          | refine k_pickF rfl rfl ?_
          | refine k_notT rfl ?_
          | refine k_notF rfl ?_
          | refine k_add rfl rfl (by omega) ?_
          | refine k_sub rfl rfl (by omega) ?_
          | refine k_mul rfl rfl (by omega) ?_
          | refine k_neg rfl (by omega) ?_
          | refine k_quo rfl rfl (by omega) ?_
          | refine k_rem rfl rfl (by omega) ?_
          | refine k_conv rfl (by omega) ?_
          | refine k_max rfl rfl ?_
          | refine k_min rfl rfl ?_
          | refine k_lssT rfl rfl (by omega) ?_
          | refine k_lssF rfl rfl (by omega) ?_
          | refine k_lss rfl rfl (fun hc => ?_) (fun hc => ?_)
          | refine k_leqT rfl rfl (by omega) ?_
          | refine k_leqF rfl rfl (by omega) ?_
          | refine k_leq rfl rfl (fun hc => ?_) (fun hc => ?_)
          | refine k_gtrT rfl rfl (by omega) ?_
          | refine k_gtrF rfl rfl (by omega) ?_
          | refine k_gtr rfl rfl (fun hc => ?_) (fun hc => ?_)
          | refine k_geqT rfl rfl (by omega) ?_
          | refine k_geqF rfl rfl (by omega) ?_
          | refine k_geq rfl rfl (fun hc => ?_) (fun hc => ?_)
          | refine k_eqlT rfl rfl (by omega) ?_
          | refine k_eqlF rfl rfl (by omega) ?_
          | refine k_eql rfl rfl (fun hc => ?_) (fun hc => ?_)
          | refine k_neqT rfl rfl (by omega) ?_
          | refine k_neqF rfl rfl (by omega) ?_
          | refine k_neq rfl rfl (fun hc => ?_) (fun hc => ?_)
          | refine k_len rfl rfl ?_
          | refine k_ok rfl rfl ?_))
      all_goals first
        | (exfalso; omega)
        | skip
      exact w_roundX ⟨rfl, rfl, _, by rw [← hc, core_out hE]; exact hs, rfl⟩
  · have hE : ¬ Ends st := fun h => h2 h.1
    repeat' (first
      | refine w_seq ?_
      | refine w_seqN ?_
      | refine w_seqX ?_
      | refine w_seqR ?_
      | refine w_blk ?_
      | refine w_blkN ?_
      | refine w_blkX ?_
      | refine w_blkR ?_
      | refine w_skip ?_
      | refine w_ret ?_
      | refine w_exit ?_
      | refine w_ops ?_
      | refine w_opsD ?_
      | refine d_one ?_
      | refine d_nil ?_
      | ((refine i_cond ?_); first | refine w_condT rfl ?_ | refine w_condF rfl ?_)
      | ((refine i_nil ?_); first | refine d_same ?_ | refine d_ord ?_ | refine d_ext ⟨_, rfl⟩ ?_ | refine d_ext (by assumption) ?_ | refine w_end0 ?_ | refine w_end1 rfl ?_ | refine w_end2 rfl rfl ?_ | refine w_end3 rfl rfl rfl ?_ | refine w_end4 rfl rfl rfl rfl ?_ | refine w_end5 rfl rfl rfl rfl rfl ?_ | refine w_end6 rfl rfl rfl rfl rfl rfl ?_ | refine w_end7 rfl rfl rfl rfl rfl rfl rfl ?_ | refine w_end8 rfl rfl rfl rfl rfl rfl rfl rfl ?_ | refine w_end9 rfl rfl rfl rfl rfl rfl rfl rfl rfl ?_ | refine w_end10 rfl rfl rfl rfl rfl rfl rfl rfl rfl rfl ?_ | refine w_end11 rfl rfl rfl rfl rfl rfl rfl rfl rfl rfl rfl ?_ | refine w_end12 rfl rfl rfl rfl rfl rfl rfl rfl rfl rfl rfl rfl ?_ | refine w_end13 rfl rfl rfl rfl rfl rfl rfl rfl rfl rfl rfl rfl rfl ?_ | refine w_end14 rfl rfl rfl rfl rfl rfl rfl rfl rfl rfl rfl rfl rfl rfl ?_ | refine w_end15 rfl rfl rfl rfl rfl rfl rfl rfl rfl rfl rfl rfl rfl rfl rfl ?_ | refine w_end16 rfl rfl rfl rfl rfl rfl rfl rfl rfl rfl rfl rfl rfl rfl rfl rfl ?_)
      | ((refine i_cons ?_); first
        | refine k_len rfl hln ?_
        | refine k_skip rfl ?_
        | refine k_want rfl ?_
        | refine k_mv rfl ?_
        | refine k_pickT rfl rfl ?_
        | refine k_pickF rfl rfl ?_
        | refine k_notT rfl ?_
        | refine k_notF rfl ?_
        | refine k_add rfl rfl (by omega) ?_
        | refine k_sub rfl rfl (by omega) ?_
        | refine k_mul rfl rfl (by omega) ?_
        | refine k_neg rfl (by omega) ?_
        | refine k_quo rfl rfl (by omega) ?_
        | refine k_rem rfl rfl (by omega) ?_
        | refine k_conv rfl (by omega) ?_
        | refine k_max rfl rfl ?_
        | refine k_min rfl rfl ?_
        | refine k_lssT rfl rfl (by omega) ?_
        | refine k_lssF rfl rfl (by omega) ?_
        | refine k_lss rfl rfl (fun hc => ?_) (fun hc => ?_)
        | refine k_leqT rfl rfl (by omega) ?_
        | refine k_leqF rfl rfl (by omega) ?_
        | refine k_leq rfl rfl (fun hc => ?_) (fun hc => ?_)
        | refine k_gtrT rfl rfl (by omega) ?_
        | refine k_gtrF rfl rfl (by omega) ?_
        | refine k_gtr rfl rfl (fun hc => ?_) (fun hc => ?_)
        | refine k_geqT rfl rfl (by omega) ?_
        | refine k_geqF rfl rfl (by omega) ?_
        | refine k_geq rfl rfl (fun hc => ?_) (fun hc => ?_)
        | refine k_eqlT rfl rfl (by omega) ?_
        | refine k_eqlF rfl rfl (by omega) ?_
        | refine k_eql rfl rfl (fun hc => ?_) (fun hc => ?_)
        | refine k_neqT rfl rfl (by omega) ?_
        | refine k_neqF rfl rfl (by omega) ?_
        | refine k_neq rfl rfl (fun hc => ?_) (fun hc => ?_)
        | refine k_len rfl rfl ?_
        | refine k_ok rfl rfl ?_))
    all_goals first
      | (exfalso; omega)
      | skip
    exact w_roundX ⟨rfl, rfl, _, by rw [← hc, core_out hE]; exact hs, rfl⟩
set_option maxHeartbeats 1000000 in
theorem round22a (h0 : Heap) (x : List Int) (hl : x.length ≤ 500) (hr : ∀ y ∈ x, -1000000 ≤ y ∧ y ≤ 1000000) (E : Env) (h : Heap) (hI : I21 h0 x E h) :
    wA FT HK b22L0 (E.keep [3]) h (wRound (I21 h0 x) mu21 (mu21 E h) (R21 h0 x 24)) := by
  obtain ⟨st, s, hc, hlen, hm, hs, rfl, rfl⟩ := hI
  have hln := IsSl.len hs
  by_cases h2 : 2 ≤ st.length
  · obtain ⟨p, hp⟩ : ∃ p, st[0]? = some p := ⟨_, List.getElem?_eq_getElem (by omega)⟩
    obtain ⟨q, hq⟩ : ∃ q, st[st.length - 1]? = some q := ⟨_, List.getElem?_eq_getElem (by omega)⟩
    have hpr := hr p (hm p (List.mem_of_getElem? hp))
    have hqr := hr q (hm q (List.mem_of_getElem? hq))
    obtain ⟨p1, hp1, hp2, -⟩ := IsInts.part (l := 1) (u := st.length - 1) hs (by omega) (by omega)
    have hsv1 := lenSV_sl hs
    obtain ⟨id, off, cap, rfl, r1⟩ := IsInts.at hs hp
    obtain ⟨id2, off2, cap2, he2, r2⟩ := IsInts.at hs hq
    obtain ⟨rfl, rfl, -, rfl⟩ := SV.slc.inj he2
    have hj : ((st.length : Int) - 1).toNat = st.length - 1 := by omega
    rw [← hj] at r2 hp1
    by_cases he : p = -q
    · have hE : Ends st := ⟨h2, by rw [hp, hq]; exact he⟩
      repeat' (first
        | refine w_seq ?_
        | refine w_seqN ?_
        | refine w_seqX ?_
        | refine w_seqR ?_
        | refine w_blk ?_
        | refine w_blkN ?_
        | refine w_blkX ?_
        | refine w_blkR ?_
        | refine w_skip ?_
        | refine w_ret ?_
        | refine w_exit ?_
        | refine w_ops ?_
        | refine w_opsD ?_
        | refine d_one ?_
        | refine d_nil ?_
        | ((refine i_cond ?_); first | refine w_condT rfl ?_ | refine w_condF rfl ?_)
        | ((refine i_nil ?_); first | refine d_same ?_ | refine d_ord ?_ | refine d_ext ⟨_, rfl⟩ ?_ | refine d_ext (by assumption) ?_ | refine w_end0 ?_ | refine w_end1 rfl ?_ | refine w_end2 rfl rfl ?_ | refine w_end3 rfl rfl rfl ?_ | refine w_end4 rfl rfl rfl rfl ?_ | refine w_end5 rfl rfl rfl rfl rfl ?_ | refine w_end6 rfl rfl rfl rfl rfl rfl ?_ | refine w_end7 rfl rfl rfl rfl rfl rfl rfl ?_ | refine w_end8 rfl rfl rfl rfl rfl rfl rfl rfl ?_ | refine w_end9 rfl rfl rfl rfl rfl rfl rfl rfl rfl ?_ | refine w_end10 rfl rfl rfl rfl rfl rfl rfl rfl rfl rfl ?_ | refine w_end11 rfl rfl rfl rfl rfl rfl rfl rfl rfl rfl rfl ?_ | refine w_end12 rfl rfl rfl rfl rfl rfl rfl rfl rfl rfl rfl rfl ?_ | refine w_end13 rfl rfl rfl rfl rfl rfl rfl rfl rfl rfl rfl rfl rfl ?_ | refine w_end14 rfl rfl rfl rfl rfl rfl rfl rfl rfl rfl rfl rfl rfl rfl ?_ | refine w_end15 rfl rfl rfl rfl rfl rfl rfl rfl rfl rfl rfl rfl rfl rfl rfl ?_ | refine w_end16 rfl rfl rfl rfl rfl rfl rfl rfl rfl rfl rfl rfl rfl rfl rfl rfl ?_)
        | ((refine i_cons ?_); first
          | refine k_len rfl hln ?_
          | refine k_idxA rfl rfl (by omega) ?_
          | refine k_ld rfl r1 ?_
          | refine k_ld rfl r2 ?_
          | refine k_span rfl hln rfl rfl (by omega) hp1 ?_
          | refine k_skip rfl ?_
          | refine k_want rfl ?_
          | refine k_mv rfl ?_
          | refine k_pickT rfl rfl ?_
          | refine k_pickF rfl rfl ?_
          | refine k_notT rfl ?_
          | refine k_notF rfl ?_
          | refine k_add rfl rfl (by omega) ?_
          | refine k_sub rfl rfl (by omega) ?_
          | refine k_mul rfl rfl (by omega) ?_
          | refine k_neg rfl (by omega) ?_
          | refine k_quo rfl rfl (by omega) ?_
          | refine k_rem rfl rfl (by omega) ?_
          | refine k_conv rfl (by omega) ?_
          | refine k_max rfl rfl ?_
          | refine k_min rfl rfl ?_
          | refine k_lssT rfl rfl (by omega) ?_
          | refine k_lssF rfl rfl (by omega) ?_
          | refine k_lss rfl rfl (fun hc => ?_) (fun hc => ?_)
          | refine k_leqT rfl rfl (by omega) ?_
          | refine k_leqF rfl rfl (by omega) ?_
          | refine k_leq rfl rfl (fun hc => ?_) (fun hc => ?_)
          | refine k_gtrT rfl rfl (by omega) ?_
          | refine k_gtrF rfl rfl (by omega) ?_
          | refine k_gtr rfl rfl (fun hc => ?_) (fun hc => ?_)
          | refine k_geqT rfl rfl (by omega) ?_
          | refine k_geqF rfl rfl (by omega) ?_
          | refine k_geq rfl rfl (fun hc => ?_) (fun hc => ?_)
          | refine k_eqlT rfl rfl (by omega) ?_
          | refine k_eqlF rfl rfl (by omega) ?_
          | refine k_eql rfl rfl (fun hc => ?_) (fun hc => ?_)
          | refine k_neqT rfl rfl (by omega) ?_
          | refine k_neqF rfl rfl (by omega) ?_
          | refine k_neq rfl rfl (fun hc => ?_) (fun hc => ?_)
          | refine k_len rfl rfl ?_
          | refine k_ok rfl rfl ?_))
      all_goals first
        | (exfalso; omega)
        | skip
      have hs1 := lenSV_sl hp2
      have hi1 := inner_len (st := st)
      refine w_roundN ⟨inner st, p1, by rw [core_in hE]; exact hc, by omega, fun y hy => hm y (mem_inner hy), hp2, rfl, rfl⟩ ?_
      show lenSV p1 < lenSV (.slc id off st.length cap)
      rw [hs1, hsv1]
      show (inner st).length < st.length
      omega
    · have hE : ¬ Ends st := fun h => he (by have := h.2; rw [hp, hq] at this; exact this)
      repeat' (first
        | refine w_seq ?_
        | refine w_seqN ?_
        | refine w_seqX ?_
        | refine w_seqR ?_
        | refine w_blk ?_
        | refine w_blkN ?_
        | refine w_blkX ?_
        | refine w_blkR ?_
        | refine w_skip ?_
        | refine w_ret ?_
        | refine w_exit ?_
        | refine w_ops ?_
        | refine w_opsD ?_
        | refine d_one ?_
        | refine d_nil ?_
        | ((refine i_cond ?_); first | refine w_condT rfl ?_ | refine w_condF rfl ?_)
        | ((refine i_nil ?_); first | refine d_same ?_ | refine d_ord ?_ | refine d_ext ⟨_, rfl⟩ ?_ | refine d_ext (by assumption) ?_ | refine w_end0 ?_ | refine w_end1 rfl ?_ | refine w_end2 rfl rfl ?_ | refine w_end3 rfl rfl rfl ?_ | refine w_end4 rfl rfl rfl rfl ?_ | refine w_end5 rfl rfl rfl rfl rfl ?_ | refine w_end6 rfl rfl rfl rfl rfl rfl ?_ | refine w_end7 rfl rfl rfl rfl rfl rfl rfl ?_ | refine w_end8 rfl rfl rfl rfl rfl rfl rfl rfl ?_ | refine w_end9 rfl rfl rfl rfl rfl rfl rfl rfl rfl ?_ | refine w_end10 rfl rfl rfl rfl rfl rfl rfl rfl rfl rfl ?_ | refine w_end11 rfl rfl rfl rfl rfl rfl rfl rfl rfl rfl rfl ?_ | refine w_end12 rfl rfl rfl rfl rfl rfl rfl rfl rfl rfl rfl rfl ?_ | refine w_end13 rfl rfl rfl rfl rfl rfl rfl rfl rfl rfl rfl rfl rfl ?_ | refine w_end14 rfl rfl rfl rfl rfl rfl rfl rfl rfl rfl rfl rfl rfl rfl ?_ | refine w_end15 rfl rfl rfl rfl rfl rfl rfl rfl rfl rfl rfl rfl rfl rfl rfl ?_ | refine w_end16 rfl rfl rfl rfl rfl rfl rfl rfl rfl rfl rfl rfl rfl rfl rfl rfl ?_)
        | ((refine i_cons ?_); first
          | refine k_len rfl hln ?_
          | refine k_idxA rfl rfl (by omega) ?_
          | refine k_ld rfl r1 ?_
          | refine k_ld rfl r2 ?_
          | refine k_skip rfl ?_
          | refine k_want rfl ?_
          | refine k_mv rfl ?_
          | refine k_pickT rfl rfl ?_
          | refine k_pickF rfl rfl ?_
          | refine k_notT rfl ?_
          | refine k_notF rfl ?_
          | refine k_add rfl rfl (by omega) ?_
          | refine k_sub rfl rfl (by omega) ?_
          | refine k_mul rfl rfl (by omega) ?_
          | refine k_neg rfl (by omega) ?_
          | refine k_quo rfl rfl (by omega) ?_
          | refine k_rem rfl rfl (by omega) ?_
          | refine k_conv rfl (by omega) ?_
          | refine k_max rfl rfl ?_
          | refine k_min rfl rfl ?_
          | refine k_lssT rfl rfl (by omega) ?_
          | refine k_lssF rfl rfl (by omega) ?_
          | refine k_lss rfl rfl (fun hc => ?_) (fun hc => ?_)
          | refine k_leqT rfl rfl (by omega) ?_
          | refine k_leqF rfl rfl (by omega) ?_
          | refine k_leq rfl rfl (fun hc => ?_) (fun hc => ?_)
          | refine k_gtrT rfl rfl (by omega) ?_
          | refine k_gtrF rfl rfl (by omega) ?_
          | refine k_gtr rfl rfl (fun hc => ?_) (fun hc => ?_)
          | refine k_geqT rfl rfl (by omega) ?_
          | refine k_geqF rfl rfl (by omega) ?_
          | refine k_geq rfl rfl (fun hc => ?_) (fun hc => ?_)
          | refine k_eqlT rfl rfl (by omega) ?_
          | refine k_eqlF rfl rfl (by omega) ?_
          | refine k_eql rfl rfl (fun hc => ?_) (fun hc => ?_)
          | refine k_neqT rfl rfl (by omega) ?_
          | refine k_neqF rfl rfl (by omega) ?_
          | refine k_neq rfl rfl (fun hc => ?_) (fun hc => ?_)
          | refine k_len rfl rfl ?_
          | refine k_ok rfl rfl ?_))
      all_goals first
        | (exfalso; omega)
        | skip
      exact w_roundX ⟨rfl, rfl, _, by rw [← hc, core_out hE]; exact hs, rfl⟩
  · have hE : ¬ Ends st := fun h => h2 h.1
    repeat' (first
      | refine w_seq ?_
      | refine w_seqN ?_
      | refine w_seqX ?_
      | refine w_seqR ?_
      | refine w_blk ?_
      | refine w_blkN ?_
      | refine w_blkX ?_
      | refine w_blkR ?_
      | refine w_skip ?_
      | refine w_ret ?_
      | refine w_exit ?_
      | refine w_ops ?_
      | refine w_opsD ?_
      | refine d_one ?_
      | refine d_nil ?_
      | ((refine i_cond ?_); first | refine w_condT rfl ?_ | refine w_condF rfl ?_)
      | ((refine i_nil ?_); first | refine d_same ?_ | refine d_ord ?_ | refine d_ext ⟨_, rfl⟩ ?_ | refine d_ext (by assumption) ?_ | refine w_end0 ?_ | refine w_end1 rfl ?_ | refine w_end2 rfl rfl ?_ | refine w_end3 rfl rfl rfl ?_ | refine w_end4 rfl rfl rfl rfl ?_ | refine w_end5 rfl rfl rfl rfl rfl ?_ | refine w_end6 rfl rfl rfl rfl rfl rfl ?_ | refine w_end7 rfl rfl rfl rfl rfl rfl rfl ?_ | refine w_end8 rfl rfl rfl rfl rfl rfl rfl rfl ?_ | refine w_end9 rfl rfl rfl rfl rfl rfl rfl rfl rfl ?_ | refine w_end10 rfl rfl rfl rfl rfl rfl rfl rfl rfl rfl ?_ | refine w_end11 rfl rfl rfl rfl rfl rfl rfl rfl rfl rfl rfl ?_ | refine w_end12 rfl rfl rfl rfl rfl rfl rfl rfl rfl rfl rfl rfl ?_ | refine w_end13 rfl rfl rfl rfl rfl rfl rfl rfl rfl rfl rfl rfl rfl ?_ | refine w_end14 rfl rfl rfl rfl rfl rfl rfl rfl rfl rfl rfl rfl rfl rfl ?_ | refine w_end15 rfl rfl rfl rfl rfl rfl rfl rfl rfl rfl rfl rfl rfl rfl rfl ?_ | refine w_end16 rfl rfl rfl rfl rfl rfl rfl rfl rfl rfl rfl rfl rfl rfl rfl rfl ?_)
      | ((refine i_cons ?_); first
        | refine k_len rfl hln ?_
        | refine k_skip rfl ?_
        | refine k_want rfl ?_
        | refine k_mv rfl ?_
        | refine k_pickT rfl rfl ?_
        | refine k_pickF rfl rfl ?_
        | refine k_notT rfl ?_
        | refine k_notF rfl ?_
        | refine k_add rfl rfl (by omega) ?_
        | refine k_sub rfl rfl (by omega) ?_
        | refine k_mul rfl rfl (by omega) ?_
        | refine k_neg rfl (by omega) ?_
        | refine k_quo rfl rfl (by omega) ?_
        | refine k_rem rfl rfl (by omega) ?_
        | refine k_conv rfl (by omega) ?_
        | refine k_max rfl rfl ?_
        | refine k_min rfl rfl ?_
        | refine k_lssT rfl rfl (by omega) ?_
        | refine k_lssF rfl rfl (by omega) ?_
        | refine k_lss rfl rfl (fun hc => ?_) (fun hc => ?_)
        | refine k_leqT rfl rfl (by omega) ?_
        | refine k_leqF rfl rfl (by omega) ?_
        | refine k_leq rfl rfl (fun hc => ?_) (fun hc => ?_)
        | refine k_gtrT rfl rfl (by omega) ?_
        | refine k_gtrF rfl rfl (by omega) ?_
        | refine k_gtr rfl rfl (fun hc => ?_) (fun hc => ?_)
        | refine k_geqT rfl rfl (by omega) ?_
        | refine k_geqF rfl rfl (by omega) ?_
        | refine k_geq rfl rfl (fun hc => ?_) (fun hc => ?_)
        | refine k_eqlT rfl rfl (by omega) ?_
        | refine k_eqlF rfl rfl (by omega) ?_
        | refine k_eql rfl rfl (fun hc => ?_) (fun hc => ?_)
        | refine k_neqT rfl rfl (by omega) ?_
        | refine k_neqF rfl rfl (by omega) ?_
        | refine k_neq rfl rfl (fun hc => ?_) (fun hc => ?_)
        | refine k_len rfl rfl ?_
        | refine k_ok rfl rfl ?_))
    all_goals first
      | (exfalso; omega)
      | skip
    exact w_roundX ⟨rfl, rfl, _, by rw [← hc, core_out hE]; exact hs, rfl⟩
end Go.Proofs.YtgmfjhmphiiifaaDoor
