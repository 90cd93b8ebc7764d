/- Contracts: Conjugate; what is conjugate. -/
import Derived.Test.YtgmfjhmphiiifaaDoorR7
namespace Go.Proofs.YtgmfjhmphiiifaaDoor
open Go.Ab
set_option linter.unusedVariables false
set_option maxRecDepth 20000
attribute [local irreducible] wOps wA wSeq wBlk wRound wOpsD

/-- The words have one cyclic form. -/
def Conj (xs ys : List Int) : Prop := ∃ r, IsLeast (core (red xs)) r ∧ IsLeast (core (red ys)) r
theorem Conj.symm {xs ys : List Int} (h : Conj xs ys) : Conj ys xs := let ⟨r, h1, h2⟩ := h; ⟨r, h2, h1⟩

theorem call24 (h0 : Heap) (s t : SV) (xs ys : List Int) (hs : IsInts h0 s xs) (ht : IsInts h0 t ys) (hx : Mid 400 xs) (hy : Mid 400 ys) :
    ∃ v h', Cal FT HK2 24 [.sc s, .sc t] h0 v h' ∧ ∃ b : Bool, v = .sc (.bool b) ∧ (b = true ↔ Conj xs ys) ∧ Ext h0 h' := by
  refine Cal.of (F := a24) rfl rfl rfl ?_
  repeat' (first
    | refine w_seq ?_
    | refine w_seqN ?_
    | refine w_seqX ?_
    | refine w_seqR ?_
    | refine w_blk ?_
    | refine w_blkN ?_
    | refine w_blkX ?_
    | refine w_blkR ?_
    | refine w_skip ?_
    | refine w_ret ?_
    | refine w_exit ?_
    | refine w_ops ?_
    | refine w_opsD ?_
    | refine d_one ?_
    | refine d_nil ?_
    | ((refine i_cond ?_); first | refine w_condT rfl ?_ | refine w_condF rfl ?_)
    | ((refine i_nil ?_); first | refine d_same ?_ | refine d_ord ?_ | refine d_ext ⟨_, rfl⟩ ?_ | refine d_ext (by assumption) ?_ | refine w_end0 ?_ | refine w_end1 rfl ?_ | refine w_end2 rfl rfl ?_ | refine w_end3 rfl rfl rfl ?_ | refine w_end4 rfl rfl rfl rfl ?_ | refine w_end5 rfl rfl rfl rfl rfl ?_ | refine w_end6 rfl rfl rfl rfl rfl rfl ?_ | refine w_end7 rfl rfl rfl rfl rfl rfl rfl ?_ | refine w_end8 rfl rfl rfl rfl rfl rfl rfl rfl ?_ | refine w_end9 rfl rfl rfl rfl rfl rfl rfl rfl rfl ?_ | refine w_end10 rfl rfl rfl rfl rfl rfl rfl rfl rfl rfl ?_ | refine w_end11 rfl rfl rfl rfl rfl rfl rfl rfl rfl rfl rfl ?_ | refine w_end12 rfl rfl rfl rfl rfl rfl rfl rfl rfl rfl rfl rfl ?_ | refine w_end13 rfl rfl rfl rfl rfl rfl rfl rfl rfl rfl rfl rfl rfl ?_ | refine w_end14 rfl rfl rfl rfl rfl rfl rfl rfl rfl rfl rfl rfl rfl rfl ?_ | refine w_end15 rfl rfl rfl rfl rfl rfl rfl rfl rfl rfl rfl rfl rfl rfl rfl ?_ | refine w_end16 rfl rfl rfl rfl rfl rfl rfl rfl rfl rfl rfl rfl rfl rfl rfl rfl ?_)
    | ((refine i_cons ?_); first
      | (refine k_call rfl (call21 (HK := HK2) rfl rfl rfl rfl _ s xs hs hx) ?_; rintro v h1 ⟨s1, r1, rfl, i1, e1, u1⟩)
      | refine k_skip rfl ?_
      | refine k_want rfl ?_
      | refine k_mv rfl ?_
      | refine k_pickT rfl rfl ?_
      | refine k_pickF rfl rfl ?_
      | refine k_notT rfl ?_
      | refine k_notF rfl ?_
      | refine k_add rfl rfl (by omega) ?_
      | refine k_sub rfl rfl (by omega) ?_
      | refine k_mul rfl rfl (by omega) ?_
      | refine k_neg rfl (by omega) ?_
      | refine k_quo rfl rfl (by omega) ?_
      | refine k_rem rfl rfl (by omega) ?_
      | refine k_conv rfl (by omega) ?_
      | refine k_max rfl rfl ?_
      | refine k_min rfl rfl ?_
      | refine k_lssT rfl rfl (by omega) ?_
      | refine k_lssF rfl rfl (by omega) ?_
      | refine k_lss rfl rfl (fun hc => ?_) (fun hc => ?_)
      | refine k_leqT rfl rfl (by omega) ?_
      | refine k_leqF rfl rfl (by omega) ?_
      | refine k_leq rfl rfl (fun hc => ?_) (fun hc => ?_)
      | refine k_gtrT rfl rfl (by omega) ?_
      | refine k_gtrF rfl rfl (by omega) ?_
      | refine k_gtr rfl rfl (fun hc => ?_) (fun hc => ?_)
      | refine k_geqT rfl rfl (by omega) ?_
      | refine k_geqF rfl rfl (by omega) ?_
      | refine k_geq rfl rfl (fun hc => ?_) (fun hc => ?_)
      | refine k_eqlT rfl rfl (by omega) ?_
      | refine k_eqlF rfl rfl (by omega) ?_
      | refine k_eql rfl rfl (fun hc => ?_) (fun hc => ?_)
      | refine k_neqT rfl rfl (by omega) ?_
      | refine k_neqF rfl rfl (by omega) ?_
      | refine k_neq rfl rfl (fun hc => ?_) (fun hc => ?_)
      | refine k_len rfl rfl ?_
      | refine k_ok rfl rfl ?_))
  repeat' (first
    | refine w_seq ?_
    | refine w_seqN ?_
    | refine w_seqX ?_
    | refine w_seqR ?_
    | refine w_blk ?_
    | refine w_blkN ?_
    | refine w_blkX ?_
    | refine w_blkR ?_
    | refine w_skip ?_
    | refine w_ret ?_
    | refine w_exit ?_
    | refine w_ops ?_
    | refine w_opsD ?_
    | refine d_one ?_
    | refine d_nil ?_
    | ((refine i_cond ?_); first | refine w_condT rfl ?_ | refine w_condF rfl ?_)
    | ((refine i_nil ?_); first | refine d_same ?_ | refine d_ord ?_ | refine d_ext ⟨_, rfl⟩ ?_ | refine d_ext (by assumption) ?_ | refine w_end0 ?_ | refine w_end1 rfl ?_ | refine w_end2 rfl rfl ?_ | refine w_end3 rfl rfl rfl ?_ | refine w_end4 rfl rfl rfl rfl ?_ | refine w_end5 rfl rfl rfl rfl rfl ?_ | refine w_end6 rfl rfl rfl rfl rfl rfl ?_ | refine w_end7 rfl rfl rfl rfl rfl rfl rfl ?_ | refine w_end8 rfl rfl rfl rfl rfl rfl rfl rfl ?_ | refine w_end9 rfl rfl rfl rfl rfl rfl rfl rfl rfl ?_ | refine w_end10 rfl rfl rfl rfl rfl rfl rfl rfl rfl rfl ?_ | refine w_end11 rfl rfl rfl rfl rfl rfl rfl rfl rfl rfl rfl ?_ | refine w_end12 rfl rfl rfl rfl rfl rfl rfl rfl rfl rfl rfl rfl ?_ | refine w_end13 rfl rfl rfl rfl rfl rfl rfl rfl rfl rfl rfl rfl rfl ?_ | refine w_end14 rfl rfl rfl rfl rfl rfl rfl rfl rfl rfl rfl rfl rfl rfl ?_ | refine w_end15 rfl rfl rfl rfl rfl rfl rfl rfl rfl rfl rfl rfl rfl rfl rfl ?_ | refine w_end16 rfl rfl rfl rfl rfl rfl rfl rfl rfl rfl rfl rfl rfl rfl rfl rfl ?_)
    | ((refine i_cons ?_); first
      | (refine k_call rfl (call21 (HK := HK2) rfl rfl rfl rfl _ t ys (IsSl.ext ht e1) hy) ?_; rintro v h2 ⟨s2, r2, rfl, i2, e2, u2⟩)
      | refine k_skip rfl ?_
      | refine k_want rfl ?_
      | refine k_mv rfl ?_
      | refine k_pickT rfl rfl ?_
      | refine k_pickF rfl rfl ?_
      | refine k_notT rfl ?_
      | refine k_notF rfl ?_
      | refine k_add rfl rfl (by omega) ?_
      | refine k_sub rfl rfl (by omega) ?_
      | refine k_mul rfl rfl (by omega) ?_
      | refine k_neg rfl (by omega) ?_
      | refine k_quo rfl rfl (by omega) ?_
      | refine k_rem rfl rfl (by omega) ?_
      | refine k_conv rfl (by omega) ?_
      | refine k_max rfl rfl ?_
      | refine k_min rfl rfl ?_
      | refine k_lssT rfl rfl (by omega) ?_
      | refine k_lssF rfl rfl (by omega) ?_
      | refine k_lss rfl rfl (fun hc => ?_) (fun hc => ?_)
      | refine k_leqT rfl rfl (by omega) ?_
      | refine k_leqF rfl rfl (by omega) ?_
      | refine k_leq rfl rfl (fun hc => ?_) (fun hc => ?_)
      | refine k_gtrT rfl rfl (by omega) ?_
      | refine k_gtrF rfl rfl (by omega) ?_
      | refine k_gtr rfl rfl (fun hc => ?_) (fun hc => ?_)
      | refine k_geqT rfl rfl (by omega) ?_
      | refine k_geqF rfl rfl (by omega) ?_
      | refine k_geq rfl rfl (fun hc => ?_) (fun hc => ?_)
      | refine k_eqlT rfl rfl (by omega) ?_
      | refine k_eqlF rfl rfl (by omega) ?_
      | refine k_eql rfl rfl (fun hc => ?_) (fun hc => ?_)
      | refine k_neqT rfl rfl (by omega) ?_
      | refine k_neqF rfl rfl (by omega) ?_
      | refine k_neq rfl rfl (fun hc => ?_) (fun hc => ?_)
      | refine k_len rfl rfl ?_
      | refine k_ok rfl rfl ?_))
  have l1 := u1.len
  have l2 := u2.len
  have c1 := (core_mem _ (red xs) (Nat.le_refl _)).1
  have c2 := (core_mem _ (red ys) (Nat.le_refl _)).1
  have m1 := hx.red.1
  have m2 := hy.red.1
  have k1 := call36 (HK := HK2) rfl h2 s1 s2 r1 r2 (IsSl.ext i1 e2) i2 (by omega) (by omega)
  have hiff : (decide (r1 = r2) = true ↔ Conj xs ys) := by
    rw [decide_eq_true_iff]
    constructor
    · rintro rfl; exact ⟨r1, u1, u2⟩
    · rintro ⟨r, k1, k2⟩
      rw [u1.uniq k1, u2.uniq k2]
  generalize decide (r1 = r2) = b at *
  repeat' (first
    | refine w_seq ?_
    | refine w_seqN ?_
    | refine w_seqX ?_
    | refine w_seqR ?_
    | refine w_blk ?_
    | refine w_blkN ?_
    | refine w_blkX ?_
    | refine w_blkR ?_
    | refine w_skip ?_
    | refine w_ret ?_
    | refine w_exit ?_
    | refine w_ops ?_
    | refine w_opsD ?_
    | refine d_one ?_
    | refine d_nil ?_
    | ((refine i_cond ?_); first | refine w_condT rfl ?_ | refine w_condF rfl ?_)
    | ((refine i_nil ?_); first | refine d_same ?_ | refine d_ord ?_ | refine d_ext ⟨_, rfl⟩ ?_ | refine d_ext (by assumption) ?_ | refine w_end0 ?_ | refine w_end1 rfl ?_ | refine w_end2 rfl rfl ?_ | refine w_end3 rfl rfl rfl ?_ | refine w_end4 rfl rfl rfl rfl ?_ | refine w_end5 rfl rfl rfl rfl rfl ?_ | refine w_end6 rfl rfl rfl rfl rfl rfl ?_ | refine w_end7 rfl rfl rfl rfl rfl rfl rfl ?_ | refine w_end8 rfl rfl rfl rfl rfl rfl rfl rfl ?_ | refine w_end9 rfl rfl rfl rfl rfl rfl rfl rfl rfl ?_ | refine w_end10 rfl rfl rfl rfl rfl rfl rfl rfl rfl rfl ?_ | refine w_end11 rfl rfl rfl rfl rfl rfl rfl rfl rfl rfl rfl ?_ | refine w_end12 rfl rfl rfl rfl rfl rfl rfl rfl rfl rfl rfl rfl ?_ | refine w_end13 rfl rfl rfl rfl rfl rfl rfl rfl rfl rfl rfl rfl rfl ?_ | refine w_end14 rfl rfl rfl rfl rfl rfl rfl rfl rfl rfl rfl rfl rfl rfl ?_ | refine w_end15 rfl rfl rfl rfl rfl rfl rfl rfl rfl rfl rfl rfl rfl rfl rfl ?_ | refine w_end16 rfl rfl rfl rfl rfl rfl rfl rfl rfl rfl rfl rfl rfl rfl rfl rfl ?_)
    | ((refine i_cons ?_); first
      | (refine k_call rfl k1 ?_; rintro v h' ⟨rfl, rfl⟩)
      | refine k_skip rfl ?_
      | refine k_want rfl ?_
      | refine k_mv rfl ?_
      | refine k_pickT rfl rfl ?_
      | refine k_pickF rfl rfl ?_
      | refine k_notT rfl ?_
      | refine k_notF rfl ?_
      | refine k_add rfl rfl (by omega) ?_
      | refine k_sub rfl rfl (by omega) ?_
      | refine k_mul rfl rfl (by omega) ?_
      | refine k_neg rfl (by omega) ?_
      | refine k_quo rfl rfl (by omega) ?_
      | refine k_rem rfl rfl (by omega) ?_
      | refine k_conv rfl (by omega) ?_
      | refine k_max rfl rfl ?_
      | refine k_min rfl rfl ?_
      | refine k_lssT rfl rfl (by omega) ?_
      | refine k_lssF rfl rfl (by omega) ?_
      | refine k_lss rfl rfl (fun hc => ?_) (fun hc => ?_)
      | refine k_leqT rfl rfl (by omega) ?_
      | refine k_leqF rfl rfl (by omega) ?_
      | refine k_leq rfl rfl (fun hc => ?_) (fun hc => ?_)
      | refine k_gtrT rfl rfl (by omega) ?_
      | refine k_gtrF rfl rfl (by omega) ?_
      | refine k_gtr rfl rfl (fun hc => ?_) (fun hc => ?_)
      | refine k_geqT rfl rfl (by omega) ?_
      | refine k_geqF rfl rfl (by omega) ?_
      | refine k_geq rfl rfl (fun hc => ?_) (fun hc => ?_)
      | refine k_eqlT rfl rfl (by omega) ?_
      | refine k_eqlF rfl rfl (by omega) ?_
      | refine k_eql rfl rfl (fun hc => ?_) (fun hc => ?_)
      | refine k_neqT rfl rfl (by omega) ?_
      | refine k_neqF rfl rfl (by omega) ?_
      | refine k_neq rfl rfl (fun hc => ?_) (fun hc => ?_)
      | refine k_len rfl rfl ?_
      | refine k_ok rfl rfl ?_))
  exact ⟨.inr rfl, b, rfl, hiff, e1.trans e2⟩

theorem cs_inner {z : List Int} (h : Ends z) (j : Nat) : cs (inner z) j = cs z j := by
  obtain ⟨h1, h2⟩ := h
  match z, h1 with
  | a :: z, h1 =>
    have hne : z ≠ [] := by rintro rfl; simp at h1
    obtain ⟨t, b, rfl⟩ : ∃ t b, z = t ++ [b] := ⟨z.dropLast, z.getLast hne, (List.dropLast_concat_getLast hne).symm⟩
    have hi : inner (a :: (t ++ [b])) = t := by simp [inner]
    have e : a = -b := by simpa using h2
    have e1 : cs (a :: (t ++ [b])) j = cs [a] j + cs (t ++ [b]) j := cs_app [a] (t ++ [b]) j
    have := cs_pair b j
    rw [hi, e1, cs_app, e]
    omega
theorem cs_core : ∀ (n : Nat) (z : List Int), z.length ≤ n → ∀ j, cs (core z) j = cs z j
  | 0, z, h, j => by
    rw [core_out (fun h' => by have := h'.1; omega)]
  | n + 1, z, h, j => by
    by_cases he : Ends z
    · have := inner_len (st := z)
      rw [← core_in he, cs_core n _ (by have := he.1; omega), cs_inner he]
    · rw [core_out he]
theorem Conj.cs {xs ys : List Int} (h : Conj xs ys) (j : Nat) : cs xs j = cs ys j := by
  obtain ⟨r, h1, h2⟩ := h
  have e1 := cs_rot h1.form.2.2.2 j
  have e2 := cs_rot h2.form.2.2.2 j
  rw [cs_core _ _ (Nat.le_refl _), cs_red] at e1 e2
  omega

theorem least_some (x : List Int) : ∃ r, IsLeast x r := by
  by_cases h : x.length = 0
  · exact ⟨[], fun h0 => by omega, fun _ => rfl⟩
  · obtain ⟨p, hp, hq⟩ := least_ex x x.length (by omega) (Nat.le_refl _)
    exact ⟨rot x p, fun _ => ⟨p, hp, rfl, hq⟩, fun h0 => absurd h0 h⟩
theorem Conj.of {xs ys : List Int} (h : RotEq (core (red xs)) (core (red ys))) : Conj xs ys := by
  obtain ⟨r, hr⟩ := least_some (core (red xs))
  exact ⟨r, hr, hr.turn h⟩
theorem conj_by {w b : List Int} (hb : ∀ l ∈ b, l ≠ 0) : Conj w (red (b ++ w ++ red (rn b))) := by
  refine Conj.of ?_
  rw [red_red, red_r]
  exact (conj w b hb).symm
theorem conj_form {w c : List Int} (h : IsLeast (core (red w)) c) : Conj c w := by
  refine Conj.of ?_
  rw [h.form.2.2.1]
  exact h.form.2.2.2.symm
theorem conj_turn {u v : List Int} (hu : ∀ l ∈ u, l ≠ 0) : Conj (u ++ v) (v ++ u) := by
  refine Conj.of (RotEq.symm ?_)
  have h := conj (v ++ u) u hu
  have e : red (u ++ (v ++ u) ++ rn u) = red (u ++ v) := by
    rw [show u ++ (v ++ u) ++ rn u = (u ++ v) ++ (u ++ rn u) by simp, ← red_r, red_inv, List.append_nil]
  rw [e] at h
  exact h.symm
theorem conj_seven {w : List Int} : ¬ Conj w (w ++ [7]) := fun h => by
  have := h.cs 6
  rw [cs_app, cs_one] at this
  simp at this
  omega

theorem call24T {h0 : Heap} {s t : SV} {xs ys : List Int} (hs : IsInts h0 s xs) (ht : IsInts h0 t ys) (hx : Mid 400 xs) (hy : Mid 400 ys) (hc : Conj xs ys) :
    ∃ v h', Cal FT HK2 24 [.sc s, .sc t] h0 v h' ∧ v = .sc (.bool true) ∧ Ext h0 h' := by
  obtain ⟨v, h', k1, b, k2, k3, k4⟩ := call24 h0 s t xs ys hs ht hx hy
  exact ⟨v, h', k1, by rw [k2, k3.2 hc], k4⟩
theorem call24F {h0 : Heap} {s t : SV} {xs ys : List Int} (hs : IsInts h0 s xs) (ht : IsInts h0 t ys) (hx : Mid 400 xs) (hy : Mid 400 ys) (hc : ¬ Conj xs ys) :
    ∃ v h', Cal FT HK2 24 [.sc s, .sc t] h0 v h' ∧ v = .sc (.bool false) ∧ Ext h0 h' := by
  obtain ⟨v, h', k1, b, k2, k3, k4⟩ := call24 h0 s t xs ys hs ht hx hy
  cases b with
  | true => exact absurd (k3.1 rfl) hc
  | false => exact ⟨v, h', k1, k2, k4⟩
end Go.Proofs.YtgmfjhmphiiifaaDoor
