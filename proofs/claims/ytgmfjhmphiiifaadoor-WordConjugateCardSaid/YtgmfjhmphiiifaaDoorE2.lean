/- The law WordExponents, reckoned. -/
import Derived.Test.YtgmfjhmphiiifaaDoorE1
namespace Go.Proofs.YtgmfjhmphiiifaaDoor
open Go.Ab
set_option linter.unusedVariables false
set_option maxRecDepth 20000
attribute [local irreducible] wOps wA wSeq wBlk wRound wOpsD
variable {HK : FuncId → Option Hook}

theorem cs_pair (x : Int) (j : Nat) : cs [-x] j + cs [x] j = 0 := by
  rw [cs_one, cs_one]
  split <;> split <;> (try split) <;> (try split) <;> omega
theorem cs_push : ∀ (ls st : List Int) (j : Nat), cs (pushL st ls) j = cs st j + cs ls j
  | [], st, j => by simp [pushL, cs]
  | x :: ls, st, j => by
    have ih := cs_push ls (push1 st x) j
    have h1 : pushL st (x :: ls) = pushL (push1 st x) ls := rfl
    have h2 : cs (x :: ls) j = cs [x] j + cs ls j := cs_app [x] ls j
    rw [h1, ih, h2]
    rcases push1_cases st x with h | ⟨t, rfl, h⟩
    · rw [h, cs_app]; omega
    · rw [h, cs_app]; have := cs_pair x j; omega
theorem cs_nil (j : Nat) : cs [] j = 0 := by simp [cs]
theorem cs_red (w : List Int) (j : Nat) : cs (red w) j = cs w j := by
  have := cs_push w [] j
  rw [cs_nil] at this
  simpa [red] using this
theorem cs_rn : ∀ (w : List Int) (j : Nat), cs (rn w) j = - cs w j
  | [], j => by simp [rn, cs_nil]
  | x :: w, j => by
    have h1 : rn (x :: w) = rn w ++ [-x] := by simp [rn]
    have h2 : cs (x :: w) j = cs [x] j + cs w j := cs_app [x] w j
    rw [h1, cs_app, cs_rn w j, h2]
    have := cs_pair x j
    omega

abbrev E9 (a x y z w : SV) (m i : Nat) : Env := [(0, some (.sc a)), (7, some (.sc x)), (9, some (.sc y)), (11, some (.sc z)), (13, some (.sc w)), (115, some (.sc (.int .i64 m))), (116, some (.sc (.int .i64 i)))]
def I9b (h0 : Heap) (a x y z w : SV) (m i : Nat) (xs : List Int) (E : Env) (h : Heap) : Prop := ∃ (j : Nat), j ≤ xs.length ∧ h = h0 ∧
  E = [(0, some (.sc a)), (7, some (.sc x)), (9, some (.sc y)), (11, some (.sc z)), (13, some (.sc w)), (15, some (.sc (.int .i64 i))), (16, some (.sc (.int .i64 (cs (xs.take j) i)))), (115, some (.sc (.int .i64 m))), (116, some (.sc (.int .i64 i))),
    (119, some (.sc a)), (120, some (.sc (.int .i64 xs.length))), (121, some (.sc (.int .i64 j)))]
def R9b (h0 : Heap) (a x y z w : SV) (m i : Nat) (xs : List Int) (ex : Ex) (E : Env) (h : Heap) : Prop := ex = .ex 2 ∧ h = h0 ∧ ∃ (j : Nat),
  E = [(0, some (.sc a)), (7, some (.sc x)), (9, some (.sc y)), (11, some (.sc z)), (13, some (.sc w)), (15, some (.sc (.int .i64 i))), (16, some (.sc (.int .i64 (cs xs i)))), (115, some (.sc (.int .i64 m))), (116, some (.sc (.int .i64 i))),
    (119, some (.sc a)), (120, some (.sc (.int .i64 xs.length))), (121, some (.sc (.int .i64 j))), (122, some (.sc (.bool false)))]

theorem round9b (h0 : Heap) (a x y z w : SV) (m i : Nat) (xs : List Int) (ha : IsInts h0 a xs) (hl : xs.length ≤ 1000) (hm : i ≤ 1000) (hr : ∀ x ∈ xs, -1000000 ≤ x ∧ x ≤ 1000000) (E : Env) (h : Heap) (hI : I9b h0 a x y z w m i xs E h) :
    wA FT HK b9L1 (E.keep [0, 7, 9, 11, 13, 15, 16, 115, 116, 119, 120, 121]) h (wRound (I9b h0 a x y z w m i xs) (cnt xs.length 121) (cnt xs.length 121 E h) (R9b h0 a x y z w m i xs)) := by
  obtain ⟨j, hj, rfl, rfl⟩ := hI
  by_cases hlt : j < xs.length
  · obtain ⟨l, hx⟩ : ∃ l, xs[j]? = some l := ⟨_, List.getElem?_eq_getElem hlt⟩
    have hlr := hr l (List.mem_of_getElem? hx)
    obtain ⟨id, off, cap, rfl, hrd⟩ := IsInts.at ha hx
    have hsn := take_snoc hx
    have hcs := cs_snoc (xs.take j) l i
    rw [← hsn] at hcs
    have hbd := cs_bd (xs.take j) i
    simp only [List.length_take] at hbd
    by_cases c1 : l = (i : Int) + 1
    · rw [if_pos c1] at hcs
      repeat' (first
        | refine w_seq ?_
        | refine w_seqN ?_
        | refine w_seqX ?_
        | refine w_seqR ?_
        | refine w_blk ?_
        | refine w_blkN ?_
        | refine w_blkX ?_
        | refine w_blkR ?_
        | refine w_skip ?_
        | refine w_ret ?_
        | refine w_exit ?_
        | refine w_ops ?_
        | refine w_opsD ?_
        | refine d_one ?_
        | refine d_nil ?_
        | ((refine i_cond ?_); first | refine w_condT rfl ?_ | refine w_condF rfl ?_)
        | ((refine i_nil ?_); first | refine d_same ?_ | refine d_ord ?_ | refine d_ext ⟨_, rfl⟩ ?_ | refine d_ext (by assumption) ?_ | refine w_end0 ?_ | refine w_end1 rfl ?_ | refine w_end2 rfl rfl ?_ | refine w_end3 rfl rfl rfl ?_ | refine w_end4 rfl rfl rfl rfl ?_ | refine w_end5 rfl rfl rfl rfl rfl ?_ | refine w_end6 rfl rfl rfl rfl rfl rfl ?_ | refine w_end7 rfl rfl rfl rfl rfl rfl rfl ?_ | refine w_end8 rfl rfl rfl rfl rfl rfl rfl rfl ?_ | refine w_end9 rfl rfl rfl rfl rfl rfl rfl rfl rfl ?_ | refine w_end10 rfl rfl rfl rfl rfl rfl rfl rfl rfl rfl ?_ | refine w_end11 rfl rfl rfl rfl rfl rfl rfl rfl rfl rfl rfl ?_ | refine w_end12 rfl rfl rfl rfl rfl rfl rfl rfl rfl rfl rfl rfl ?_ | refine w_end13 rfl rfl rfl rfl rfl rfl rfl rfl rfl rfl rfl rfl rfl ?_ | refine w_end14 rfl rfl rfl rfl rfl rfl rfl rfl rfl rfl rfl rfl rfl rfl ?_ | refine w_end15 rfl rfl rfl rfl rfl rfl rfl rfl rfl rfl rfl rfl rfl rfl rfl ?_ | refine w_end16 rfl rfl rfl rfl rfl rfl rfl rfl rfl rfl rfl rfl rfl rfl rfl rfl ?_)
        | ((refine i_cons ?_); first
          | refine k_idxA rfl rfl (by omega) ?_
          | refine k_ld rfl hrd ?_
          | refine k_skip rfl ?_
          | refine k_want rfl ?_
          | refine k_mv rfl ?_
          | refine k_pickT rfl rfl ?_
          | refine k_pickF rfl rfl ?_
          | refine k_notT rfl ?_
          | refine k_notF rfl ?_
          | refine k_add rfl rfl (by omega) ?_
          | refine k_sub rfl rfl (by omega) ?_
          | refine k_mul rfl rfl (by omega) ?_
          | refine k_neg rfl (by omega) ?_
          | refine k_quo rfl rfl (by omega) ?_
          | refine k_rem rfl rfl (by omega) ?_
          | refine k_conv rfl (by omega) ?_
          | refine k_max rfl rfl ?_
          | refine k_min rfl rfl ?_
          | refine k_lssT rfl rfl (by omega) ?_
          | refine k_lssF rfl rfl (by omega) ?_
          | refine k_lss rfl rfl (fun hc => ?_) (fun hc => ?_)
          | refine k_leqT rfl rfl (by omega) ?_
          | refine k_leqF rfl rfl (by omega) ?_
          | refine k_leq rfl rfl (fun hc => ?_) (fun hc => ?_)
          | refine k_gtrT rfl rfl (by omega) ?_
          | refine k_gtrF rfl rfl (by omega) ?_
          | refine k_gtr rfl rfl (fun hc => ?_) (fun hc => ?_)
          | refine k_geqT rfl rfl (by omega) ?_
          | refine k_geqF rfl rfl (by omega) ?_
          | refine k_geq rfl rfl (fun hc => ?_) (fun hc => ?_)
          | refine k_eqlT rfl rfl (by omega) ?_
          | refine k_eqlF rfl rfl (by omega) ?_
          | refine k_eql rfl rfl (fun hc => ?_) (fun hc => ?_)
          | refine k_neqT rfl rfl (by omega) ?_
          | refine k_neqF rfl rfl (by omega) ?_
          | refine k_neq rfl rfl (fun hc => ?_) (fun hc => ?_)
          | refine k_len rfl rfl ?_
          | refine k_ok rfl rfl ?_))
      all_goals first
        | exact w_roundN ⟨j + 1, by omega, rfl, by rw [hcs]; rfl⟩ (by simp [cnt, Env.get]; omega)
        | (exfalso; omega)
    · rw [if_neg c1] at hcs
      by_cases c2 : l = -((i : Int) + 1)
      · rw [if_pos c2] at hcs
        repeat' (first
          | refine w_seq ?_
          | refine w_seqN ?_
          | refine w_seqX ?_
          | refine w_seqR ?_
          | refine w_blk ?_
          | refine w_blkN ?_
          | refine w_blkX ?_
          | refine w_blkR ?_
          | refine w_skip ?_
          | refine w_ret ?_
          | refine w_exit ?_
          | refine w_ops ?_
          | refine w_opsD ?_
          | refine d_one ?_
          | refine d_nil ?_
          | ((refine i_cond ?_); first | refine w_condT rfl ?_ | refine w_condF rfl ?_)
          | ((refine i_nil ?_); first | refine d_same ?_ | refine d_ord ?_ | refine d_ext ⟨_, rfl⟩ ?_ | refine d_ext (by assumption) ?_ | refine w_end0 ?_ | refine w_end1 rfl ?_ | refine w_end2 rfl rfl ?_ | refine w_end3 rfl rfl rfl ?_ | refine w_end4 rfl rfl rfl rfl ?_ | refine w_end5 rfl rfl rfl rfl rfl ?_ | refine w_end6 rfl rfl rfl rfl rfl rfl ?_ | refine w_end7 rfl rfl rfl rfl rfl rfl rfl ?_ | refine w_end8 rfl rfl rfl rfl rfl rfl rfl rfl ?_ | refine w_end9 rfl rfl rfl rfl rfl rfl rfl rfl rfl ?_ | refine w_end10 rfl rfl rfl rfl rfl rfl rfl rfl rfl rfl ?_ | refine w_end11 rfl rfl rfl rfl rfl rfl rfl rfl rfl rfl rfl ?_ | refine w_end12 rfl rfl rfl rfl rfl rfl rfl rfl rfl rfl rfl rfl ?_ | refine w_end13 rfl rfl rfl rfl rfl rfl rfl rfl rfl rfl rfl rfl rfl ?_ | refine w_end14 rfl rfl rfl rfl rfl rfl rfl rfl rfl rfl rfl rfl rfl rfl ?_ | refine w_end15 rfl rfl rfl rfl rfl rfl rfl rfl rfl rfl rfl rfl rfl rfl rfl ?_ | refine w_end16 rfl rfl rfl rfl rfl rfl rfl rfl rfl rfl rfl rfl rfl rfl rfl rfl ?_)
          | ((refine i_cons ?_); first
            | refine k_idxA rfl rfl (by omega) ?_
            | refine k_ld rfl hrd ?_
            | refine k_skip rfl ?_
            | refine k_want rfl ?_
            | refine k_mv rfl ?_
            | refine k_pickT rfl rfl ?_
            | refine k_pickF rfl rfl ?_
            | refine k_notT rfl ?_
            | refine k_notF rfl ?_
            | refine k_add rfl rfl (by omega) ?_
            | refine k_sub rfl rfl (by omega) ?_
            | refine k_mul rfl rfl (by omega) ?_
            | refine k_neg rfl (by omega) ?_
            | refine k_quo rfl rfl (by omega) ?_
            | refine k_rem rfl rfl (by omega) ?_
            | refine k_conv rfl (by omega) ?_
            | refine k_max rfl rfl ?_
            | refine k_min rfl rfl ?_
            | refine k_lssT rfl rfl (by omega) ?_
            | refine k_lssF rfl rfl (by omega) ?_
            | refine k_lss rfl rfl (fun hc => ?_) (fun hc => ?_)
            | refine k_leqT rfl rfl (by omega) ?_
            | refine k_leqF rfl rfl (by omega) ?_
            | refine k_leq rfl rfl (fun hc => ?_) (fun hc => ?_)
            | refine k_gtrT rfl rfl (by omega) ?_
            | refine k_gtrF rfl rfl (by omega) ?_
            | refine k_gtr rfl rfl (fun hc => ?_) (fun hc => ?_)
            | refine k_geqT rfl rfl (by omega) ?_
            | refine k_geqF rfl rfl (by omega) ?_
            | refine k_geq rfl rfl (fun hc => ?_) (fun hc => ?_)
            | refine k_eqlT rfl rfl (by omega) ?_
            | refine k_eqlF rfl rfl (by omega) ?_
            | refine k_eql rfl rfl (fun hc => ?_) (fun hc => ?_)
            | refine k_neqT rfl rfl (by omega) ?_
            | refine k_neqF rfl rfl (by omega) ?_
            | refine k_neq rfl rfl (fun hc => ?_) (fun hc => ?_)
            | refine k_len rfl rfl ?_
            | refine k_ok rfl rfl ?_))
        all_goals first
          | exact w_roundN ⟨j + 1, by omega, rfl, by rw [hcs]; rfl⟩ (by simp [cnt, Env.get]; omega)
          | (exfalso; omega)
      · rw [if_neg c2, Int.add_zero] at hcs
        repeat' (first
          | refine w_seq ?_
          | refine w_seqN ?_
          | refine w_seqX ?_
          | refine w_seqR ?_
          | refine w_blk ?_
          | refine w_blkN ?_
          | refine w_blkX ?_
          | refine w_blkR ?_
          | refine w_skip ?_
          | refine w_ret ?_
          | refine w_exit ?_
          | refine w_ops ?_
          | refine w_opsD ?_
          | refine d_one ?_
          | refine d_nil ?_
          | ((refine i_cond ?_); first | refine w_condT rfl ?_ | refine w_condF rfl ?_)
          | ((refine i_nil ?_); first | refine d_same ?_ | refine d_ord ?_ | refine d_ext ⟨_, rfl⟩ ?_ | refine d_ext (by assumption) ?_ | refine w_end0 ?_ | refine w_end1 rfl ?_ | refine w_end2 rfl rfl ?_ | refine w_end3 rfl rfl rfl ?_ | refine w_end4 rfl rfl rfl rfl ?_ | refine w_end5 rfl rfl rfl rfl rfl ?_ | refine w_end6 rfl rfl rfl rfl rfl rfl ?_ | refine w_end7 rfl rfl rfl rfl rfl rfl rfl ?_ | refine w_end8 rfl rfl rfl rfl rfl rfl rfl rfl ?_ | refine w_end9 rfl rfl rfl rfl rfl rfl rfl rfl rfl ?_ | refine w_end10 rfl rfl rfl rfl rfl rfl rfl rfl rfl rfl ?_ | refine w_end11 rfl rfl rfl rfl rfl rfl rfl rfl rfl rfl rfl ?_ | refine w_end12 rfl rfl rfl rfl rfl rfl rfl rfl rfl rfl rfl rfl ?_ | refine w_end13 rfl rfl rfl rfl rfl rfl rfl rfl rfl rfl rfl rfl rfl ?_ | refine w_end14 rfl rfl rfl rfl rfl rfl rfl rfl rfl rfl rfl rfl rfl rfl ?_ | refine w_end15 rfl rfl rfl rfl rfl rfl rfl rfl rfl rfl rfl rfl rfl rfl rfl ?_ | refine w_end16 rfl rfl rfl rfl rfl rfl rfl rfl rfl rfl rfl rfl rfl rfl rfl rfl ?_)
          | ((refine i_cons ?_); first
            | refine k_idxA rfl rfl (by omega) ?_
            | refine k_ld rfl hrd ?_
            | refine k_skip rfl ?_
            | refine k_want rfl ?_
            | refine k_mv rfl ?_
            | refine k_pickT rfl rfl ?_
            | refine k_pickF rfl rfl ?_
            | refine k_notT rfl ?_
            | refine k_notF rfl ?_
            | refine k_add rfl rfl (by omega) ?_
            | refine k_sub rfl rfl (by omega) ?_
            | refine k_mul rfl rfl (by omega) ?_
            | refine k_neg rfl (by omega) ?_
            | refine k_quo rfl rfl (by omega) ?_
            | refine k_rem rfl rfl (by omega) ?_
            | refine k_conv rfl (by omega) ?_
            | refine k_max rfl rfl ?_
            | refine k_min rfl rfl ?_
            | refine k_lssT rfl rfl (by omega) ?_
            | refine k_lssF rfl rfl (by omega) ?_
            | refine k_lss rfl rfl (fun hc => ?_) (fun hc => ?_)
            | refine k_leqT rfl rfl (by omega) ?_
            | refine k_leqF rfl rfl (by omega) ?_
            | refine k_leq rfl rfl (fun hc => ?_) (fun hc => ?_)
            | refine k_gtrT rfl rfl (by omega) ?_
            | refine k_gtrF rfl rfl (by omega) ?_
            | refine k_gtr rfl rfl (fun hc => ?_) (fun hc => ?_)
            | refine k_geqT rfl rfl (by omega) ?_
            | refine k_geqF rfl rfl (by omega) ?_
            | refine k_geq rfl rfl (fun hc => ?_) (fun hc => ?_)
            | refine k_eqlT rfl rfl (by omega) ?_
            | refine k_eqlF rfl rfl (by omega) ?_
            | refine k_eql rfl rfl (fun hc => ?_) (fun hc => ?_)
            | refine k_neqT rfl rfl (by omega) ?_
            | refine k_neqF rfl rfl (by omega) ?_
            | refine k_neq rfl rfl (fun hc => ?_) (fun hc => ?_)
            | refine k_len rfl rfl ?_
            | refine k_ok rfl rfl ?_))
        all_goals first
          | exact w_roundN ⟨j + 1, by omega, rfl, by rw [hcs]; rfl⟩ (by simp [cnt, Env.get]; omega)
          | (exfalso; omega)
  · repeat' (first
   | refine w_seq ?_
   | refine w_seqN ?_
   | refine w_seqX ?_
   | refine w_seqR ?_
   | refine w_blk ?_
   | refine w_blkN ?_
   | refine w_blkX ?_
   | refine w_blkR ?_
   | refine w_skip ?_
   | refine w_ret ?_
   | refine w_exit ?_
   | refine w_ops ?_
   | refine w_opsD ?_
   | refine d_one ?_
   | refine d_nil ?_
   | ((refine i_cond ?_); first | refine w_condT rfl ?_ | refine w_condF rfl ?_)
   | ((refine i_nil ?_); first | refine d_same ?_ | refine d_ord ?_ | refine d_ext ⟨_, rfl⟩ ?_ | refine d_ext (by assumption) ?_ | refine w_end0 ?_ | refine w_end1 rfl ?_ | refine w_end2 rfl rfl ?_ | refine w_end3 rfl rfl rfl ?_ | refine w_end4 rfl rfl rfl rfl ?_ | refine w_end5 rfl rfl rfl rfl rfl ?_ | refine w_end6 rfl rfl rfl rfl rfl rfl ?_ | refine w_end7 rfl rfl rfl rfl rfl rfl rfl ?_ | refine w_end8 rfl rfl rfl rfl rfl rfl rfl rfl ?_ | refine w_end9 rfl rfl rfl rfl rfl rfl rfl rfl rfl ?_ | refine w_end10 rfl rfl rfl rfl rfl rfl rfl rfl rfl rfl ?_ | refine w_end11 rfl rfl rfl rfl rfl rfl rfl rfl rfl rfl rfl ?_ | refine w_end12 rfl rfl rfl rfl rfl rfl rfl rfl rfl rfl rfl rfl ?_ | refine w_end13 rfl rfl rfl rfl rfl rfl rfl rfl rfl rfl rfl rfl rfl ?_ | refine w_end14 rfl rfl rfl rfl rfl rfl rfl rfl rfl rfl rfl rfl rfl rfl ?_ | refine w_end15 rfl rfl rfl rfl rfl rfl rfl rfl rfl rfl rfl rfl rfl rfl rfl ?_ | refine w_end16 rfl rfl rfl rfl rfl rfl rfl rfl rfl rfl rfl rfl rfl rfl rfl rfl ?_)
   | ((refine i_cons ?_); first
     | refine k_skip rfl ?_
     | refine k_want rfl ?_
     | refine k_mv rfl ?_
     | refine k_pickT rfl rfl ?_
     | refine k_pickF rfl rfl ?_
     | refine k_notT rfl ?_
     | refine k_notF rfl ?_
     | refine k_add rfl rfl (by omega) ?_
     | refine k_sub rfl rfl (by omega) ?_
     | refine k_mul rfl rfl (by omega) ?_
     | refine k_neg rfl (by omega) ?_
     | refine k_quo rfl rfl (by omega) ?_
     | refine k_rem rfl rfl (by omega) ?_
     | refine k_conv rfl (by omega) ?_
     | refine k_max rfl rfl ?_
     | refine k_min rfl rfl ?_
     | refine k_lssT rfl rfl (by omega) ?_
     | refine k_lssF rfl rfl (by omega) ?_
     | refine k_lss rfl rfl (fun hc => ?_) (fun hc => ?_)
     | refine k_leqT rfl rfl (by omega) ?_
     | refine k_leqF rfl rfl (by omega) ?_
     | refine k_leq rfl rfl (fun hc => ?_) (fun hc => ?_)
     | refine k_gtrT rfl rfl (by omega) ?_
     | refine k_gtrF rfl rfl (by omega) ?_
     | refine k_gtr rfl rfl (fun hc => ?_) (fun hc => ?_)
     | refine k_geqT rfl rfl (by omega) ?_
     | refine k_geqF rfl rfl (by omega) ?_
     | refine k_geq rfl rfl (fun hc => ?_) (fun hc => ?_)
     | refine k_eqlT rfl rfl (by omega) ?_
     | refine k_eqlF rfl rfl (by omega) ?_
     | refine k_eql rfl rfl (fun hc => ?_) (fun hc => ?_)
     | refine k_neqT rfl rfl (by omega) ?_
     | refine k_neqF rfl rfl (by omega) ?_
     | refine k_neq rfl rfl (fun hc => ?_) (fun hc => ?_)
     | refine k_len rfl rfl ?_
     | refine k_ok rfl rfl ?_))
    have he : cs (xs.take j) i = cs xs i := by rw [List.take_of_length_le (by omega)]
    exact w_roundX ⟨rfl, rfl, j, by rw [he]⟩

def I9 (h0 : Heap) (a x y z w : SV) (m : Nat) (E : Env) (h : Heap) : Prop := ∃ (i : Nat), i ≤ m ∧ h = h0 ∧ E = E9 a x y z w m i
def R9 (h0 : Heap) (ex : Ex) (E : Env) (h : Heap) : Prop := ex = .ex 0 ∧ h = h0

theorem round9 (h0 : Heap) (a x y z w : SV) (m : Nat) (xs ys : List Int) (ha : IsInts h0 a xs) (hl : xs.length ≤ 1000) (hl2 : ys.length ≤ 1000) (hm : m ≤ 1000) (hr : ∀ x ∈ xs, -1000000 ≤ x ∧ x ≤ 1000000)
    (vx : IsInts h0 x (vec m xs)) (vy : IsInts h0 y (vec m ys)) (vz : IsInts h0 z (vec m (red (xs ++ ys)))) (vw : IsInts h0 w (vec m (red (rn xs)))) (E : Env) (h : Heap) (hI : I9 h0 a x y z w m E h) :
    wA FT HK b9L0 (E.keep [0, 7, 9, 11, 13, 115, 116]) h (wRound (I9 h0 a x y z w m) (cnt m 116) (cnt m 116 E h) (R9 h0)) := by
  obtain ⟨i, hi, rfl, rfl⟩ := hI
  by_cases hlt : i < m
  · have hln := IsSl.len ha
    obtain ⟨i1, o1, p1, rfl, r1⟩ := IsInts.at vx (vec_get (w := xs) hlt)
    obtain ⟨i2, o2, p2, rfl, r2⟩ := IsInts.at vy (vec_get (w := ys) hlt)
    obtain ⟨i3, o3, p3, rfl, r3⟩ := IsInts.at vz (vec_get (w := red (xs ++ ys)) hlt)
    obtain ⟨i4, o4, p4, rfl, r4⟩ := IsInts.at vw (vec_get (w := red (rn xs)) hlt)
    rw [cs_red, cs_app] at r3
    rw [cs_red, cs_rn] at r4
    have b1 := cs_bd xs i
    have b2 := cs_bd ys i
    simp only [vec_len] at *
    repeat' (first
      | refine w_seq ?_
      | refine w_seqN ?_
      | refine w_seqX ?_
      | refine w_seqR ?_
      | refine w_blk ?_
      | refine w_blkN ?_
      | refine w_blkX ?_
      | refine w_blkR ?_
      | refine w_skip ?_
      | refine w_ret ?_
      | refine w_exit ?_
      | refine w_ops ?_
      | refine w_opsD ?_
      | refine d_one ?_
      | refine d_nil ?_
      | ((refine i_cond ?_); first | refine w_condT rfl ?_ | refine w_condF rfl ?_)
      | ((refine i_nil ?_); first | refine d_same ?_ | refine d_ord ?_ | refine d_ext ⟨_, rfl⟩ ?_ | refine d_ext (by assumption) ?_ | refine w_end0 ?_ | refine w_end1 rfl ?_ | refine w_end2 rfl rfl ?_ | refine w_end3 rfl rfl rfl ?_ | refine w_end4 rfl rfl rfl rfl ?_ | refine w_end5 rfl rfl rfl rfl rfl ?_ | refine w_end6 rfl rfl rfl rfl rfl rfl ?_ | refine w_end7 rfl rfl rfl rfl rfl rfl rfl ?_ | refine w_end8 rfl rfl rfl rfl rfl rfl rfl rfl ?_ | refine w_end9 rfl rfl rfl rfl rfl rfl rfl rfl rfl ?_ | refine w_end10 rfl rfl rfl rfl rfl rfl rfl rfl rfl rfl ?_ | refine w_end11 rfl rfl rfl rfl rfl rfl rfl rfl rfl rfl rfl ?_ | refine w_end12 rfl rfl rfl rfl rfl rfl rfl rfl rfl rfl rfl rfl ?_ | refine w_end13 rfl rfl rfl rfl rfl rfl rfl rfl rfl rfl rfl rfl rfl ?_ | refine w_end14 rfl rfl rfl rfl rfl rfl rfl rfl rfl rfl rfl rfl rfl rfl ?_ | refine w_end15 rfl rfl rfl rfl rfl rfl rfl rfl rfl rfl rfl rfl rfl rfl rfl ?_ | refine w_end16 rfl rfl rfl rfl rfl rfl rfl rfl rfl rfl rfl rfl rfl rfl rfl rfl ?_)
      | ((refine i_cons ?_); first
        | refine k_len rfl hln ?_
        | refine k_skip rfl ?_
        | refine k_want rfl ?_
        | refine k_mv rfl ?_
        | refine k_pickT rfl rfl ?_
        | refine k_pickF rfl rfl ?_
        | refine k_notT rfl ?_
        | refine k_notF rfl ?_
        | refine k_add rfl rfl (by omega) ?_
        | refine k_sub rfl rfl (by omega) ?_
        | refine k_mul rfl rfl (by omega) ?_
        | refine k_neg rfl (by omega) ?_
        | refine k_quo rfl rfl (by omega) ?_
        | refine k_rem rfl rfl (by omega) ?_
        | refine k_conv rfl (by omega) ?_
        | refine k_max rfl rfl ?_
        | refine k_min rfl rfl ?_
        | refine k_lssT rfl rfl (by omega) ?_
        | refine k_lssF rfl rfl (by omega) ?_
        | refine k_lss rfl rfl (fun hc => ?_) (fun hc => ?_)
        | refine k_leqT rfl rfl (by omega) ?_
        | refine k_leqF rfl rfl (by omega) ?_
        | refine k_leq rfl rfl (fun hc => ?_) (fun hc => ?_)
        | refine k_gtrT rfl rfl (by omega) ?_
        | refine k_gtrF rfl rfl (by omega) ?_
        | refine k_gtr rfl rfl (fun hc => ?_) (fun hc => ?_)
        | refine k_geqT rfl rfl (by omega) ?_
        | refine k_geqF rfl rfl (by omega) ?_
        | refine k_geq rfl rfl (fun hc => ?_) (fun hc => ?_)
        | refine k_eqlT rfl rfl (by omega) ?_
        | refine k_eqlF rfl rfl (by omega) ?_
        | refine k_eql rfl rfl (fun hc => ?_) (fun hc => ?_)
        | refine k_neqT rfl rfl (by omega) ?_
        | refine k_neqF rfl rfl (by omega) ?_
        | refine k_neq rfl rfl (fun hc => ?_) (fun hc => ?_)
        | refine k_len rfl rfl ?_
        | refine k_ok rfl rfl ?_))
    refine w_loop (I9b h a (.slc i1 o1 m p1) (.slc i2 o2 m p2) (.slc i3 o3 m p3) (.slc i4 o4 m p4) m i xs) (cnt xs.length 121) (R9b h a (.slc i1 o1 m p1) (.slc i2 o2 m p2) (.slc i3 o3 m p3) (.slc i4 o4 m p4) m i xs) ⟨0, Nat.zero_le _, rfl, by rw [List.take_zero, cs_nil]; rfl⟩ (round9b h a (.slc i1 o1 m p1) (.slc i2 o2 m p2) (.slc i3 o3 m p3) (.slc i4 o4 m p4) m i xs ha hl (by omega) hr) ?_
    rintro ex E' h' ⟨rfl, rfl, j, rfl⟩
    repeat' (first
      | refine w_seq ?_
      | refine w_seqN ?_
      | refine w_seqX ?_
      | refine w_seqR ?_
      | refine w_blk ?_
      | refine w_blkN ?_
      | refine w_blkX ?_
      | refine w_blkR ?_
      | refine w_skip ?_
      | refine w_ret ?_
      | refine w_exit ?_
      | refine w_ops ?_
      | refine w_opsD ?_
      | refine d_one ?_
      | refine d_nil ?_
      | ((refine i_cond ?_); first | refine w_condT rfl ?_ | refine w_condF rfl ?_)
      | ((refine i_nil ?_); first | refine d_same ?_ | refine d_ord ?_ | refine d_ext ⟨_, rfl⟩ ?_ | refine d_ext (by assumption) ?_ | refine w_end0 ?_ | refine w_end1 rfl ?_ | refine w_end2 rfl rfl ?_ | refine w_end3 rfl rfl rfl ?_ | refine w_end4 rfl rfl rfl rfl ?_ | refine w_end5 rfl rfl rfl rfl rfl ?_ | refine w_end6 rfl rfl rfl rfl rfl rfl ?_ | refine w_end7 rfl rfl rfl rfl rfl rfl rfl ?_ | refine w_end8 rfl rfl rfl rfl rfl rfl rfl rfl ?_ | refine w_end9 rfl rfl rfl rfl rfl rfl rfl rfl rfl ?_ | refine w_end10 rfl rfl rfl rfl rfl rfl rfl rfl rfl rfl ?_ | refine w_end11 rfl rfl rfl rfl rfl rfl rfl rfl rfl rfl rfl ?_ | refine w_end12 rfl rfl rfl rfl rfl rfl rfl rfl rfl rfl rfl rfl ?_ | refine w_end13 rfl rfl rfl rfl rfl rfl rfl rfl rfl rfl rfl rfl rfl ?_ | refine w_end14 rfl rfl rfl rfl rfl rfl rfl rfl rfl rfl rfl rfl rfl rfl ?_ | refine w_end15 rfl rfl rfl rfl rfl rfl rfl rfl rfl rfl rfl rfl rfl rfl rfl ?_ | refine w_end16 rfl rfl rfl rfl rfl rfl rfl rfl rfl rfl rfl rfl rfl rfl rfl rfl ?_)
      | ((refine i_cons ?_); first
        | refine k_idxA rfl rfl (by omega) ?_
        | refine k_ld rfl r1 ?_
        | refine k_ld rfl r2 ?_
        | refine k_ld rfl r3 ?_
        | refine k_ld rfl r4 ?_
        | refine k_skip rfl ?_
        | refine k_want rfl ?_
        | refine k_mv rfl ?_
        | refine k_pickT rfl rfl ?_
        | refine k_pickF rfl rfl ?_
        | refine k_notT rfl ?_
        | refine k_notF rfl ?_
        | refine k_add rfl rfl (by omega) ?_
        | refine k_sub rfl rfl (by omega) ?_
        | refine k_mul rfl rfl (by omega) ?_
        | refine k_neg rfl (by omega) ?_
        | refine k_quo rfl rfl (by omega) ?_
        | refine k_rem rfl rfl (by omega) ?_
        | refine k_conv rfl (by omega) ?_
        | refine k_max rfl rfl ?_
        | refine k_min rfl rfl ?_
        | refine k_lssT rfl rfl (by omega) ?_
        | refine k_lssF rfl rfl (by omega) ?_
        | refine k_lss rfl rfl (fun hc => ?_) (fun hc => ?_)
        | refine k_leqT rfl rfl (by omega) ?_
        | refine k_leqF rfl rfl (by omega) ?_
        | refine k_leq rfl rfl (fun hc => ?_) (fun hc => ?_)
        | refine k_gtrT rfl rfl (by omega) ?_
        | refine k_gtrF rfl rfl (by omega) ?_
        | refine k_gtr rfl rfl (fun hc => ?_) (fun hc => ?_)
        | refine k_geqT rfl rfl (by omega) ?_
        | refine k_geqF rfl rfl (by omega) ?_
        | refine k_geq rfl rfl (fun hc => ?_) (fun hc => ?_)
        | refine k_eqlT rfl rfl (by omega) ?_
        | refine k_eqlF rfl rfl (by omega) ?_
        | refine k_eql rfl rfl (fun hc => ?_) (fun hc => ?_)
        | refine k_neqT rfl rfl (by omega) ?_
        | refine k_neqF rfl rfl (by omega) ?_
        | refine k_neq rfl rfl (fun hc => ?_) (fun hc => ?_)
        | refine k_len rfl rfl ?_
        | refine k_ok rfl rfl ?_))
    all_goals first
      | exact w_roundN ⟨i + 1, by omega, rfl, rfl⟩ (by simp [cnt, Env.get]; omega)
      | (exfalso; omega)
  · repeat' (first
   | refine w_seq ?_
   | refine w_seqN ?_
   | refine w_seqX ?_
   | refine w_seqR ?_
   | refine w_blk ?_
   | refine w_blkN ?_
   | refine w_blkX ?_
   | refine w_blkR ?_
   | refine w_skip ?_
   | refine w_ret ?_
   | refine w_exit ?_
   | refine w_ops ?_
   | refine w_opsD ?_
   | refine d_one ?_
   | refine d_nil ?_
   | ((refine i_cond ?_); first | refine w_condT rfl ?_ | refine w_condF rfl ?_)
   | ((refine i_nil ?_); first | refine d_same ?_ | refine d_ord ?_ | refine d_ext ⟨_, rfl⟩ ?_ | refine d_ext (by assumption) ?_ | refine w_end0 ?_ | refine w_end1 rfl ?_ | refine w_end2 rfl rfl ?_ | refine w_end3 rfl rfl rfl ?_ | refine w_end4 rfl rfl rfl rfl ?_ | refine w_end5 rfl rfl rfl rfl rfl ?_ | refine w_end6 rfl rfl rfl rfl rfl rfl ?_ | refine w_end7 rfl rfl rfl rfl rfl rfl rfl ?_ | refine w_end8 rfl rfl rfl rfl rfl rfl rfl rfl ?_ | refine w_end9 rfl rfl rfl rfl rfl rfl rfl rfl rfl ?_ | refine w_end10 rfl rfl rfl rfl rfl rfl rfl rfl rfl rfl ?_ | refine w_end11 rfl rfl rfl rfl rfl rfl rfl rfl rfl rfl rfl ?_ | refine w_end12 rfl rfl rfl rfl rfl rfl rfl rfl rfl rfl rfl rfl ?_ | refine w_end13 rfl rfl rfl rfl rfl rfl rfl rfl rfl rfl rfl rfl rfl ?_ | refine w_end14 rfl rfl rfl rfl rfl rfl rfl rfl rfl rfl rfl rfl rfl rfl ?_ | refine w_end15 rfl rfl rfl rfl rfl rfl rfl rfl rfl rfl rfl rfl rfl rfl rfl ?_ | refine w_end16 rfl rfl rfl rfl rfl rfl rfl rfl rfl rfl rfl rfl rfl rfl rfl rfl ?_)
   | ((refine i_cons ?_); first
     | refine k_skip rfl ?_
     | refine k_want rfl ?_
     | refine k_mv rfl ?_
     | refine k_pickT rfl rfl ?_
     | refine k_pickF rfl rfl ?_
     | refine k_notT rfl ?_
     | refine k_notF rfl ?_
     | refine k_add rfl rfl (by omega) ?_
     | refine k_sub rfl rfl (by omega) ?_
     | refine k_mul rfl rfl (by omega) ?_
     | refine k_neg rfl (by omega) ?_
     | refine k_quo rfl rfl (by omega) ?_
     | refine k_rem rfl rfl (by omega) ?_
     | refine k_conv rfl (by omega) ?_
     | refine k_max rfl rfl ?_
     | refine k_min rfl rfl ?_
     | refine k_lssT rfl rfl (by omega) ?_
     | refine k_lssF rfl rfl (by omega) ?_
     | refine k_lss rfl rfl (fun hc => ?_) (fun hc => ?_)
     | refine k_leqT rfl rfl (by omega) ?_
     | refine k_leqF rfl rfl (by omega) ?_
     | refine k_leq rfl rfl (fun hc => ?_) (fun hc => ?_)
     | refine k_gtrT rfl rfl (by omega) ?_
     | refine k_gtrF rfl rfl (by omega) ?_
     | refine k_gtr rfl rfl (fun hc => ?_) (fun hc => ?_)
     | refine k_geqT rfl rfl (by omega) ?_
     | refine k_geqF rfl rfl (by omega) ?_
     | refine k_geq rfl rfl (fun hc => ?_) (fun hc => ?_)
     | refine k_eqlT rfl rfl (by omega) ?_
     | refine k_eqlF rfl rfl (by omega) ?_
     | refine k_eql rfl rfl (fun hc => ?_) (fun hc => ?_)
     | refine k_neqT rfl rfl (by omega) ?_
     | refine k_neqF rfl rfl (by omega) ?_
     | refine k_neq rfl rfl (fun hc => ?_) (fun hc => ?_)
     | refine k_len rfl rfl ?_
     | refine k_ok rfl rfl ?_))
    exact w_roundX ⟨rfl, rfl⟩

theorem exps (h0 : Heap) (a : SV) (xs : List Int) (ha : IsInts h0 a xs) (b : SV) (ys : List Int) (hb : IsInts h0 b ys) (r : Int) (hr : -9223372036854775808 ≤ r ∧ r ≤ 9223372036854775807) :
    ∃ v h', Cal FT HK2 9 [.sc a, .sc b, .sc (.int .i64 r)] h0 v h' ∧ v = .sc (.bool true) := by
  refine Cal.of (F := a9) rfl rfl rfl ?_
  have k1 := call13 (HK := HK2) rfl rfl h0 a xs ha
  have k2 := call13 (HK := HK2) rfl rfl h0 b ys hb
  by_cases hx : Word xs
  · rw [decide_eq_true hx] at k1
    by_cases hy : Word ys
    · rw [decide_eq_true hy] at k2
      by_cases h20 : r ≤ 20
      · have mx := Mid.of hx
        have my := Mid.of hy
        have mxy := (mx.app my).red
        have mrn := mx.rn.red
        have lx := mx.1
        have ly := my.1
        have lxy := mxy.1
        have lrn := mrn.1
        have v1 := call16 (HK := HK2) rfl h0 a xs r (by omega) (by omega) ha
        by_cases va : ∀ x ∈ xs, 1 ≤ r ∧ Let r x
        · rw [decide_eq_true va] at v1
          repeat' (first
            | refine w_seq ?_
            | refine w_seqN ?_
            | refine w_seqX ?_
            | refine w_seqR ?_
            | refine w_blk ?_
            | refine w_blkN ?_
            | refine w_blkX ?_
            | refine w_blkR ?_
            | refine w_skip ?_
            | refine w_ret ?_
            | refine w_exit ?_
            | refine w_ops ?_
            | refine w_opsD ?_
            | refine d_one ?_
            | refine d_nil ?_
            | ((refine i_cond ?_); first | refine w_condT rfl ?_ | refine w_condF rfl ?_)
            | ((refine i_nil ?_); first | refine d_same ?_ | refine d_ord ?_ | refine d_ext ⟨_, rfl⟩ ?_ | refine d_ext (by assumption) ?_ | refine w_end0 ?_ | refine w_end1 rfl ?_ | refine w_end2 rfl rfl ?_ | refine w_end3 rfl rfl rfl ?_ | refine w_end4 rfl rfl rfl rfl ?_ | refine w_end5 rfl rfl rfl rfl rfl ?_ | refine w_end6 rfl rfl rfl rfl rfl rfl ?_ | refine w_end7 rfl rfl rfl rfl rfl rfl rfl ?_ | refine w_end8 rfl rfl rfl rfl rfl rfl rfl rfl ?_ | refine w_end9 rfl rfl rfl rfl rfl rfl rfl rfl rfl ?_ | refine w_end10 rfl rfl rfl rfl rfl rfl rfl rfl rfl rfl ?_ | refine w_end11 rfl rfl rfl rfl rfl rfl rfl rfl rfl rfl rfl ?_ | refine w_end12 rfl rfl rfl rfl rfl rfl rfl rfl rfl rfl rfl rfl ?_ | refine w_end13 rfl rfl rfl rfl rfl rfl rfl rfl rfl rfl rfl rfl rfl ?_ | refine w_end14 rfl rfl rfl rfl rfl rfl rfl rfl rfl rfl rfl rfl rfl rfl ?_ | refine w_end15 rfl rfl rfl rfl rfl rfl rfl rfl rfl rfl rfl rfl rfl rfl rfl ?_ | refine w_end16 rfl rfl rfl rfl rfl rfl rfl rfl rfl rfl rfl rfl rfl rfl rfl rfl ?_)
            | ((refine i_cons ?_); first
              | (refine k_call rfl (awake_call2 _) ?_; rintro v h' ⟨rfl, rfl⟩)
              | (refine k_call rfl k1 ?_; rintro v h' ⟨rfl, rfl⟩)
              | (refine k_call rfl k2 ?_; rintro v h' ⟨rfl, rfl⟩)
              | (refine k_call rfl (call28 (HK := HK2) rfl rfl _ a xs ha (by omega) r (by omega) va) ?_; rintro v h1 ⟨s7, rfl, i7, e1⟩)
              | refine k_skip rfl ?_
              | refine k_want rfl ?_
              | refine k_mv rfl ?_
              | refine k_pickT rfl rfl ?_
              | refine k_pickF rfl rfl ?_
              | refine k_notT rfl ?_
              | refine k_notF rfl ?_
              | refine k_add rfl rfl (by omega) ?_
              | refine k_sub rfl rfl (by omega) ?_
              | refine k_mul rfl rfl (by omega) ?_
              | refine k_neg rfl (by omega) ?_
              | refine k_quo rfl rfl (by omega) ?_
              | refine k_rem rfl rfl (by omega) ?_
              | refine k_conv rfl (by omega) ?_
              | refine k_max rfl rfl ?_
              | refine k_min rfl rfl ?_
              | refine k_lssT rfl rfl (by omega) ?_
              | refine k_lssF rfl rfl (by omega) ?_
              | refine k_lss rfl rfl (fun hc => ?_) (fun hc => ?_)
              | refine k_leqT rfl rfl (by omega) ?_
              | refine k_leqF rfl rfl (by omega) ?_
              | refine k_leq rfl rfl (fun hc => ?_) (fun hc => ?_)
              | refine k_gtrT rfl rfl (by omega) ?_
              | refine k_gtrF rfl rfl (by omega) ?_
              | refine k_gtr rfl rfl (fun hc => ?_) (fun hc => ?_)
              | refine k_geqT rfl rfl (by omega) ?_
              | refine k_geqF rfl rfl (by omega) ?_
              | refine k_geq rfl rfl (fun hc => ?_) (fun hc => ?_)
              | refine k_eqlT rfl rfl (by omega) ?_
              | refine k_eqlF rfl rfl (by omega) ?_
              | refine k_eql rfl rfl (fun hc => ?_) (fun hc => ?_)
              | refine k_neqT rfl rfl (by omega) ?_
              | refine k_neqF rfl rfl (by omega) ?_
              | refine k_neq rfl rfl (fun hc => ?_) (fun hc => ?_)
              | refine k_len rfl rfl ?_
              | refine k_ok rfl rfl ?_))
          have v1 := call16 (HK := HK2) rfl h1 a xs r (by omega) (by omega) (IsSl.ext ha e1)
          rw [decide_eq_true va] at v1
          have l7 := IsSl.len i7
          rw [vec_len] at l7
          have hb1 := IsSl.ext hb e1
          by_cases vb : ∀ x ∈ ys, 1 ≤ r ∧ Let r x
          · repeat' (first
   | refine w_seq ?_
   | refine w_seqN ?_
   | refine w_seqX ?_
   | refine w_seqR ?_
   | refine w_blk ?_
   | refine w_blkN ?_
   | refine w_blkX ?_
   | refine w_blkR ?_
   | refine w_skip ?_
   | refine w_ret ?_
   | refine w_exit ?_
   | refine w_ops ?_
   | refine w_opsD ?_
   | refine d_one ?_
   | refine d_nil ?_
   | ((refine i_cond ?_); first | refine w_condT rfl ?_ | refine w_condF rfl ?_)
   | ((refine i_nil ?_); first | refine d_same ?_ | refine d_ord ?_ | refine d_ext ⟨_, rfl⟩ ?_ | refine d_ext (by assumption) ?_ | refine w_end0 ?_ | refine w_end1 rfl ?_ | refine w_end2 rfl rfl ?_ | refine w_end3 rfl rfl rfl ?_ | refine w_end4 rfl rfl rfl rfl ?_ | refine w_end5 rfl rfl rfl rfl rfl ?_ | refine w_end6 rfl rfl rfl rfl rfl rfl ?_ | refine w_end7 rfl rfl rfl rfl rfl rfl rfl ?_ | refine w_end8 rfl rfl rfl rfl rfl rfl rfl rfl ?_ | refine w_end9 rfl rfl rfl rfl rfl rfl rfl rfl rfl ?_ | refine w_end10 rfl rfl rfl rfl rfl rfl rfl rfl rfl rfl ?_ | refine w_end11 rfl rfl rfl rfl rfl rfl rfl rfl rfl rfl rfl ?_ | refine w_end12 rfl rfl rfl rfl rfl rfl rfl rfl rfl rfl rfl rfl ?_ | refine w_end13 rfl rfl rfl rfl rfl rfl rfl rfl rfl rfl rfl rfl rfl ?_ | refine w_end14 rfl rfl rfl rfl rfl rfl rfl rfl rfl rfl rfl rfl rfl rfl ?_ | refine w_end15 rfl rfl rfl rfl rfl rfl rfl rfl rfl rfl rfl rfl rfl rfl rfl ?_ | refine w_end16 rfl rfl rfl rfl rfl rfl rfl rfl rfl rfl rfl rfl rfl rfl rfl rfl ?_)
   | ((refine i_cons ?_); first
     | refine k_len rfl l7 ?_
     | (refine k_call rfl v1 ?_; rintro v h' ⟨rfl, rfl⟩)
     | (refine k_call rfl (call28 (HK := HK2) rfl rfl _ b ys hb1 (by omega) r (by omega) vb) ?_; rintro v h2 ⟨s9, rfl, i9, e2⟩)
     | refine k_skip rfl ?_
     | refine k_want rfl ?_
     | refine k_mv rfl ?_
     | refine k_pickT rfl rfl ?_
     | refine k_pickF rfl rfl ?_
     | refine k_notT rfl ?_
     | refine k_notF rfl ?_
     | refine k_add rfl rfl (by omega) ?_
     | refine k_sub rfl rfl (by omega) ?_
     | refine k_mul rfl rfl (by omega) ?_
     | refine k_neg rfl (by omega) ?_
     | refine k_quo rfl rfl (by omega) ?_
     | refine k_rem rfl rfl (by omega) ?_
     | refine k_conv rfl (by omega) ?_
     | refine k_max rfl rfl ?_
     | refine k_min rfl rfl ?_
     | refine k_lssT rfl rfl (by omega) ?_
     | refine k_lssF rfl rfl (by omega) ?_
     | refine k_lss rfl rfl (fun hc => ?_) (fun hc => ?_)
     | refine k_leqT rfl rfl (by omega) ?_
     | refine k_leqF rfl rfl (by omega) ?_
     | refine k_leq rfl rfl (fun hc => ?_) (fun hc => ?_)
     | refine k_gtrT rfl rfl (by omega) ?_
     | refine k_gtrF rfl rfl (by omega) ?_
     | refine k_gtr rfl rfl (fun hc => ?_) (fun hc => ?_)
     | refine k_geqT rfl rfl (by omega) ?_
     | refine k_geqF rfl rfl (by omega) ?_
     | refine k_geq rfl rfl (fun hc => ?_) (fun hc => ?_)
     | refine k_eqlT rfl rfl (by omega) ?_
     | refine k_eqlF rfl rfl (by omega) ?_
     | refine k_eql rfl rfl (fun hc => ?_) (fun hc => ?_)
     | refine k_neqT rfl rfl (by omega) ?_
     | refine k_neqF rfl rfl (by omega) ?_
     | refine k_neq rfl rfl (fun hc => ?_) (fun hc => ?_)
     | refine k_len rfl rfl ?_
     | refine k_ok rfl rfl ?_))
            have vab : ∀ x ∈ red (xs ++ ys), 1 ≤ r ∧ Let r x := fun x h => by
              rcases mem_pushL (xs ++ ys) [] x h with h' | h'
              · simp at h'
              · rcases List.mem_append.1 h' with h' | h'
                · exact va x h'
                · exact vb x h'
            have vin : ∀ x ∈ red (rn xs), 1 ≤ r ∧ Let r x := fun x h => by
              rcases mem_pushL (rn xs) [] x h with h' | h'
              · simp at h'
              · have := va _ (mem_rn.1 h')
                unfold Let at *
                omega
            have l9 := IsSl.len i9
            rw [vec_len] at l9
            have a2 := IsSl.ext (IsSl.ext ha e1) e2
            have b2 := IsSl.ext hb1 e2
            have x2 := IsSl.ext i7 e2
            repeat' (first
              | refine w_seq ?_
              | refine w_seqN ?_
              | refine w_seqX ?_
              | refine w_seqR ?_
              | refine w_blk ?_
              | refine w_blkN ?_
              | refine w_blkX ?_
              | refine w_blkR ?_
              | refine w_skip ?_
              | refine w_ret ?_
              | refine w_exit ?_
              | refine w_ops ?_
              | refine w_opsD ?_
              | refine d_one ?_
              | refine d_nil ?_
              | ((refine i_cond ?_); first | refine w_condT rfl ?_ | refine w_condF rfl ?_)
              | ((refine i_nil ?_); first | refine d_same ?_ | refine d_ord ?_ | refine d_ext ⟨_, rfl⟩ ?_ | refine d_ext (by assumption) ?_ | refine w_end0 ?_ | refine w_end1 rfl ?_ | refine w_end2 rfl rfl ?_ | refine w_end3 rfl rfl rfl ?_ | refine w_end4 rfl rfl rfl rfl ?_ | refine w_end5 rfl rfl rfl rfl rfl ?_ | refine w_end6 rfl rfl rfl rfl rfl rfl ?_ | refine w_end7 rfl rfl rfl rfl rfl rfl rfl ?_ | refine w_end8 rfl rfl rfl rfl rfl rfl rfl rfl ?_ | refine w_end9 rfl rfl rfl rfl rfl rfl rfl rfl rfl ?_ | refine w_end10 rfl rfl rfl rfl rfl rfl rfl rfl rfl rfl ?_ | refine w_end11 rfl rfl rfl rfl rfl rfl rfl rfl rfl rfl rfl ?_ | refine w_end12 rfl rfl rfl rfl rfl rfl rfl rfl rfl rfl rfl rfl ?_ | refine w_end13 rfl rfl rfl rfl rfl rfl rfl rfl rfl rfl rfl rfl rfl ?_ | refine w_end14 rfl rfl rfl rfl rfl rfl rfl rfl rfl rfl rfl rfl rfl rfl ?_ | refine w_end15 rfl rfl rfl rfl rfl rfl rfl rfl rfl rfl rfl rfl rfl rfl rfl ?_ | refine w_end16 rfl rfl rfl rfl rfl rfl rfl rfl rfl rfl rfl rfl rfl rfl rfl rfl ?_)
              | ((refine i_cons ?_); first
                | (refine k_call rfl (mul2 (r := red (xs ++ ys)) a2 b2 (mx.mono (by omega)) (my.mono (by omega)) rfl) ?_; rintro v h3 ⟨s3, rfl, i3, e3⟩)
                | refine k_skip rfl ?_
                | refine k_want rfl ?_
                | refine k_mv rfl ?_
                | refine k_pickT rfl rfl ?_
                | refine k_pickF rfl rfl ?_
                | refine k_notT rfl ?_
                | refine k_notF rfl ?_
                | refine k_add rfl rfl (by omega) ?_
                | refine k_sub rfl rfl (by omega) ?_
                | refine k_mul rfl rfl (by omega) ?_
                | refine k_neg rfl (by omega) ?_
                | refine k_quo rfl rfl (by omega) ?_
                | refine k_rem rfl rfl (by omega) ?_
                | refine k_conv rfl (by omega) ?_
                | refine k_max rfl rfl ?_
                | refine k_min rfl rfl ?_
                | refine k_lssT rfl rfl (by omega) ?_
                | refine k_lssF rfl rfl (by omega) ?_
                | refine k_lss rfl rfl (fun hc => ?_) (fun hc => ?_)
                | refine k_leqT rfl rfl (by omega) ?_
                | refine k_leqF rfl rfl (by omega) ?_
                | refine k_leq rfl rfl (fun hc => ?_) (fun hc => ?_)
                | refine k_gtrT rfl rfl (by omega) ?_
                | refine k_gtrF rfl rfl (by omega) ?_
                | refine k_gtr rfl rfl (fun hc => ?_) (fun hc => ?_)
                | refine k_geqT rfl rfl (by omega) ?_
                | refine k_geqF rfl rfl (by omega) ?_
                | refine k_geq rfl rfl (fun hc => ?_) (fun hc => ?_)
                | refine k_eqlT rfl rfl (by omega) ?_
                | refine k_eqlF rfl rfl (by omega) ?_
                | refine k_eql rfl rfl (fun hc => ?_) (fun hc => ?_)
                | refine k_neqT rfl rfl (by omega) ?_
                | refine k_neqF rfl rfl (by omega) ?_
                | refine k_neq rfl rfl (fun hc => ?_) (fun hc => ?_)
                | refine k_len rfl rfl ?_
                | refine k_ok rfl rfl ?_))
            repeat' (first
              | refine w_seq ?_
              | refine w_seqN ?_
              | refine w_seqX ?_
              | refine w_seqR ?_
              | refine w_blk ?_
              | refine w_blkN ?_
              | refine w_blkX ?_
              | refine w_blkR ?_
              | refine w_skip ?_
              | refine w_ret ?_
              | refine w_exit ?_
              | refine w_ops ?_
              | refine w_opsD ?_
              | refine d_one ?_
              | refine d_nil ?_
              | ((refine i_cond ?_); first | refine w_condT rfl ?_ | refine w_condF rfl ?_)
              | ((refine i_nil ?_); first | refine d_same ?_ | refine d_ord ?_ | refine d_ext ⟨_, rfl⟩ ?_ | refine d_ext (by assumption) ?_ | refine w_end0 ?_ | refine w_end1 rfl ?_ | refine w_end2 rfl rfl ?_ | refine w_end3 rfl rfl rfl ?_ | refine w_end4 rfl rfl rfl rfl ?_ | refine w_end5 rfl rfl rfl rfl rfl ?_ | refine w_end6 rfl rfl rfl rfl rfl rfl ?_ | refine w_end7 rfl rfl rfl rfl rfl rfl rfl ?_ | refine w_end8 rfl rfl rfl rfl rfl rfl rfl rfl ?_ | refine w_end9 rfl rfl rfl rfl rfl rfl rfl rfl rfl ?_ | refine w_end10 rfl rfl rfl rfl rfl rfl rfl rfl rfl rfl ?_ | refine w_end11 rfl rfl rfl rfl rfl rfl rfl rfl rfl rfl rfl ?_ | refine w_end12 rfl rfl rfl rfl rfl rfl rfl rfl rfl rfl rfl rfl ?_ | refine w_end13 rfl rfl rfl rfl rfl rfl rfl rfl rfl rfl rfl rfl rfl ?_ | refine w_end14 rfl rfl rfl rfl rfl rfl rfl rfl rfl rfl rfl rfl rfl rfl ?_ | refine w_end15 rfl rfl rfl rfl rfl rfl rfl rfl rfl rfl rfl rfl rfl rfl rfl ?_ | refine w_end16 rfl rfl rfl rfl rfl rfl rfl rfl rfl rfl rfl rfl rfl rfl rfl rfl ?_)
              | ((refine i_cons ?_); first
                | (refine k_call rfl (call28 (HK := HK2) rfl rfl _ s3 _ i3 (by omega) r (by omega) vab) ?_; rintro v h4 ⟨s11, rfl, i11, e4⟩)
                | refine k_skip rfl ?_
                | refine k_want rfl ?_
                | refine k_mv rfl ?_
                | refine k_pickT rfl rfl ?_
                | refine k_pickF rfl rfl ?_
                | refine k_notT rfl ?_
                | refine k_notF rfl ?_
                | refine k_add rfl rfl (by omega) ?_
                | refine k_sub rfl rfl (by omega) ?_
                | refine k_mul rfl rfl (by omega) ?_
                | refine k_neg rfl (by omega) ?_
                | refine k_quo rfl rfl (by omega) ?_
                | refine k_rem rfl rfl (by omega) ?_
                | refine k_conv rfl (by omega) ?_
                | refine k_max rfl rfl ?_
                | refine k_min rfl rfl ?_
                | refine k_lssT rfl rfl (by omega) ?_
                | refine k_lssF rfl rfl (by omega) ?_
                | refine k_lss rfl rfl (fun hc => ?_) (fun hc => ?_)
                | refine k_leqT rfl rfl (by omega) ?_
                | refine k_leqF rfl rfl (by omega) ?_
                | refine k_leq rfl rfl (fun hc => ?_) (fun hc => ?_)
                | refine k_gtrT rfl rfl (by omega) ?_
                | refine k_gtrF rfl rfl (by omega) ?_
                | refine k_gtr rfl rfl (fun hc => ?_) (fun hc => ?_)
                | refine k_geqT rfl rfl (by omega) ?_
                | refine k_geqF rfl rfl (by omega) ?_
                | refine k_geq rfl rfl (fun hc => ?_) (fun hc => ?_)
                | refine k_eqlT rfl rfl (by omega) ?_
                | refine k_eqlF rfl rfl (by omega) ?_
                | refine k_eql rfl rfl (fun hc => ?_) (fun hc => ?_)
                | refine k_neqT rfl rfl (by omega) ?_
                | refine k_neqF rfl rfl (by omega) ?_
                | refine k_neq rfl rfl (fun hc => ?_) (fun hc => ?_)
                | refine k_len rfl rfl ?_
                | refine k_ok rfl rfl ?_))
            have l11 := IsSl.len i11
            rw [vec_len] at l11
            have a4 := IsSl.ext (IsSl.ext a2 e3) e4
            have x4 := IsSl.ext (IsSl.ext x2 e3) e4
            have y4 := IsSl.ext (IsSl.ext i9 e3) e4
            repeat' (first
              | refine w_seq ?_
              | refine w_seqN ?_
              | refine w_seqX ?_
              | refine w_seqR ?_
              | refine w_blk ?_
              | refine w_blkN ?_
              | refine w_blkX ?_
              | refine w_blkR ?_
              | refine w_skip ?_
              | refine w_ret ?_
              | refine w_exit ?_
              | refine w_ops ?_
              | refine w_opsD ?_
              | refine d_one ?_
              | refine d_nil ?_
              | ((refine i_cond ?_); first | refine w_condT rfl ?_ | refine w_condF rfl ?_)
              | ((refine i_nil ?_); first | refine d_same ?_ | refine d_ord ?_ | refine d_ext ⟨_, rfl⟩ ?_ | refine d_ext (by assumption) ?_ | refine w_end0 ?_ | refine w_end1 rfl ?_ | refine w_end2 rfl rfl ?_ | refine w_end3 rfl rfl rfl ?_ | refine w_end4 rfl rfl rfl rfl ?_ | refine w_end5 rfl rfl rfl rfl rfl ?_ | refine w_end6 rfl rfl rfl rfl rfl rfl ?_ | refine w_end7 rfl rfl rfl rfl rfl rfl rfl ?_ | refine w_end8 rfl rfl rfl rfl rfl rfl rfl rfl ?_ | refine w_end9 rfl rfl rfl rfl rfl rfl rfl rfl rfl ?_ | refine w_end10 rfl rfl rfl rfl rfl rfl rfl rfl rfl rfl ?_ | refine w_end11 rfl rfl rfl rfl rfl rfl rfl rfl rfl rfl rfl ?_ | refine w_end12 rfl rfl rfl rfl rfl rfl rfl rfl rfl rfl rfl rfl ?_ | refine w_end13 rfl rfl rfl rfl rfl rfl rfl rfl rfl rfl rfl rfl rfl ?_ | refine w_end14 rfl rfl rfl rfl rfl rfl rfl rfl rfl rfl rfl rfl rfl rfl ?_ | refine w_end15 rfl rfl rfl rfl rfl rfl rfl rfl rfl rfl rfl rfl rfl rfl rfl ?_ | refine w_end16 rfl rfl rfl rfl rfl rfl rfl rfl rfl rfl rfl rfl rfl rfl rfl rfl ?_)
              | ((refine i_cons ?_); first
                | (refine k_call rfl (invC (r := red (rn xs)) a4 (mx.mono (by omega)) rfl) ?_; rintro v h5 ⟨s5, rfl, i5, e5⟩)
                | refine k_skip rfl ?_
                | refine k_want rfl ?_
                | refine k_mv rfl ?_
                | refine k_pickT rfl rfl ?_
                | refine k_pickF rfl rfl ?_
                | refine k_notT rfl ?_
                | refine k_notF rfl ?_
                | refine k_add rfl rfl (by omega) ?_
                | refine k_sub rfl rfl (by omega) ?_
                | refine k_mul rfl rfl (by omega) ?_
                | refine k_neg rfl (by omega) ?_
                | refine k_quo rfl rfl (by omega) ?_
                | refine k_rem rfl rfl (by omega) ?_
                | refine k_conv rfl (by omega) ?_
                | refine k_max rfl rfl ?_
                | refine k_min rfl rfl ?_
                | refine k_lssT rfl rfl (by omega) ?_
                | refine k_lssF rfl rfl (by omega) ?_
                | refine k_lss rfl rfl (fun hc => ?_) (fun hc => ?_)
                | refine k_leqT rfl rfl (by omega) ?_
                | refine k_leqF rfl rfl (by omega) ?_
                | refine k_leq rfl rfl (fun hc => ?_) (fun hc => ?_)
                | refine k_gtrT rfl rfl (by omega) ?_
                | refine k_gtrF rfl rfl (by omega) ?_
                | refine k_gtr rfl rfl (fun hc => ?_) (fun hc => ?_)
                | refine k_geqT rfl rfl (by omega) ?_
                | refine k_geqF rfl rfl (by omega) ?_
                | refine k_geq rfl rfl (fun hc => ?_) (fun hc => ?_)
                | refine k_eqlT rfl rfl (by omega) ?_
                | refine k_eqlF rfl rfl (by omega) ?_
                | refine k_eql rfl rfl (fun hc => ?_) (fun hc => ?_)
                | refine k_neqT rfl rfl (by omega) ?_
                | refine k_neqF rfl rfl (by omega) ?_
                | refine k_neq rfl rfl (fun hc => ?_) (fun hc => ?_)
                | refine k_len rfl rfl ?_
                | refine k_ok rfl rfl ?_))
            repeat' (first
              | refine w_seq ?_
              | refine w_seqN ?_
              | refine w_seqX ?_
              | refine w_seqR ?_
              | refine w_blk ?_
              | refine w_blkN ?_
              | refine w_blkX ?_
              | refine w_blkR ?_
              | refine w_skip ?_
              | refine w_ret ?_
              | refine w_exit ?_
              | refine w_ops ?_
              | refine w_opsD ?_
              | refine d_one ?_
              | refine d_nil ?_
              | ((refine i_cond ?_); first | refine w_condT rfl ?_ | refine w_condF rfl ?_)
              | ((refine i_nil ?_); first | refine d_same ?_ | refine d_ord ?_ | refine d_ext ⟨_, rfl⟩ ?_ | refine d_ext (by assumption) ?_ | refine w_end0 ?_ | refine w_end1 rfl ?_ | refine w_end2 rfl rfl ?_ | refine w_end3 rfl rfl rfl ?_ | refine w_end4 rfl rfl rfl rfl ?_ | refine w_end5 rfl rfl rfl rfl rfl ?_ | refine w_end6 rfl rfl rfl rfl rfl rfl ?_ | refine w_end7 rfl rfl rfl rfl rfl rfl rfl ?_ | refine w_end8 rfl rfl rfl rfl rfl rfl rfl rfl ?_ | refine w_end9 rfl rfl rfl rfl rfl rfl rfl rfl rfl ?_ | refine w_end10 rfl rfl rfl rfl rfl rfl rfl rfl rfl rfl ?_ | refine w_end11 rfl rfl rfl rfl rfl rfl rfl rfl rfl rfl rfl ?_ | refine w_end12 rfl rfl rfl rfl rfl rfl rfl rfl rfl rfl rfl rfl ?_ | refine w_end13 rfl rfl rfl rfl rfl rfl rfl rfl rfl rfl rfl rfl rfl ?_ | refine w_end14 rfl rfl rfl rfl rfl rfl rfl rfl rfl rfl rfl rfl rfl rfl ?_ | refine w_end15 rfl rfl rfl rfl rfl rfl rfl rfl rfl rfl rfl rfl rfl rfl rfl ?_ | refine w_end16 rfl rfl rfl rfl rfl rfl rfl rfl rfl rfl rfl rfl rfl rfl rfl rfl ?_)
              | ((refine i_cons ?_); first
                | (refine k_call rfl (call28 (HK := HK2) rfl rfl _ s5 _ i5 (by omega) r (by omega) vin) ?_; rintro v h6 ⟨s13, rfl, i13, e6⟩)
                | refine k_skip rfl ?_
                | refine k_want rfl ?_
                | refine k_mv rfl ?_
                | refine k_pickT rfl rfl ?_
                | refine k_pickF rfl rfl ?_
                | refine k_notT rfl ?_
                | refine k_notF rfl ?_
                | refine k_add rfl rfl (by omega) ?_
                | refine k_sub rfl rfl (by omega) ?_
                | refine k_mul rfl rfl (by omega) ?_
                | refine k_neg rfl (by omega) ?_
                | refine k_quo rfl rfl (by omega) ?_
                | refine k_rem rfl rfl (by omega) ?_
                | refine k_conv rfl (by omega) ?_
                | refine k_max rfl rfl ?_
                | refine k_min rfl rfl ?_
                | refine k_lssT rfl rfl (by omega) ?_
                | refine k_lssF rfl rfl (by omega) ?_
                | refine k_lss rfl rfl (fun hc => ?_) (fun hc => ?_)
                | refine k_leqT rfl rfl (by omega) ?_
                | refine k_leqF rfl rfl (by omega) ?_
                | refine k_leq rfl rfl (fun hc => ?_) (fun hc => ?_)
                | refine k_gtrT rfl rfl (by omega) ?_
                | refine k_gtrF rfl rfl (by omega) ?_
                | refine k_gtr rfl rfl (fun hc => ?_) (fun hc => ?_)
                | refine k_geqT rfl rfl (by omega) ?_
                | refine k_geqF rfl rfl (by omega) ?_
                | refine k_geq rfl rfl (fun hc => ?_) (fun hc => ?_)
                | refine k_eqlT rfl rfl (by omega) ?_
                | refine k_eqlF rfl rfl (by omega) ?_
                | refine k_eql rfl rfl (fun hc => ?_) (fun hc => ?_)
                | refine k_neqT rfl rfl (by omega) ?_
                | refine k_neqF rfl rfl (by omega) ?_
                | refine k_neq rfl rfl (fun hc => ?_) (fun hc => ?_)
                | refine k_len rfl rfl ?_
                | refine k_ok rfl rfl ?_))
            have l13 := IsSl.len i13
            rw [vec_len] at l13
            have a6 := IsSl.ext (IsSl.ext a4 e5) e6
            have x6 := IsSl.ext (IsSl.ext x4 e5) e6
            have y6 := IsSl.ext (IsSl.ext y4 e5) e6
            have z6 := IsSl.ext (IsSl.ext i11 e5) e6
            repeat' (first
              | refine w_seq ?_
              | refine w_seqN ?_
              | refine w_seqX ?_
              | refine w_seqR ?_
              | refine w_blk ?_
              | refine w_blkN ?_
              | refine w_blkX ?_
              | refine w_blkR ?_
              | refine w_skip ?_
              | refine w_ret ?_
              | refine w_exit ?_
              | refine w_ops ?_
              | refine w_opsD ?_
              | refine d_one ?_
              | refine d_nil ?_
              | ((refine i_cond ?_); first | refine w_condT rfl ?_ | refine w_condF rfl ?_)
              | ((refine i_nil ?_); first | refine d_same ?_ | refine d_ord ?_ | refine d_ext ⟨_, rfl⟩ ?_ | refine d_ext (by assumption) ?_ | refine w_end0 ?_ | refine w_end1 rfl ?_ | refine w_end2 rfl rfl ?_ | refine w_end3 rfl rfl rfl ?_ | refine w_end4 rfl rfl rfl rfl ?_ | refine w_end5 rfl rfl rfl rfl rfl ?_ | refine w_end6 rfl rfl rfl rfl rfl rfl ?_ | refine w_end7 rfl rfl rfl rfl rfl rfl rfl ?_ | refine w_end8 rfl rfl rfl rfl rfl rfl rfl rfl ?_ | refine w_end9 rfl rfl rfl rfl rfl rfl rfl rfl rfl ?_ | refine w_end10 rfl rfl rfl rfl rfl rfl rfl rfl rfl rfl ?_ | refine w_end11 rfl rfl rfl rfl rfl rfl rfl rfl rfl rfl rfl ?_ | refine w_end12 rfl rfl rfl rfl rfl rfl rfl rfl rfl rfl rfl rfl ?_ | refine w_end13 rfl rfl rfl rfl rfl rfl rfl rfl rfl rfl rfl rfl rfl ?_ | refine w_end14 rfl rfl rfl rfl rfl rfl rfl rfl rfl rfl rfl rfl rfl rfl ?_ | refine w_end15 rfl rfl rfl rfl rfl rfl rfl rfl rfl rfl rfl rfl rfl rfl rfl ?_ | refine w_end16 rfl rfl rfl rfl rfl rfl rfl rfl rfl rfl rfl rfl rfl rfl rfl rfl ?_)
              | ((refine i_cons ?_); first
                | refine k_len rfl l7 ?_
                | refine k_len rfl l9 ?_
                | refine k_len rfl l11 ?_
                | refine k_len rfl l13 ?_
                | refine k_skip rfl ?_
                | refine k_want rfl ?_
                | refine k_mv rfl ?_
                | refine k_pickT rfl rfl ?_
                | refine k_pickF rfl rfl ?_
                | refine k_notT rfl ?_
                | refine k_notF rfl ?_
                | refine k_add rfl rfl (by omega) ?_
                | refine k_sub rfl rfl (by omega) ?_
                | refine k_mul rfl rfl (by omega) ?_
                | refine k_neg rfl (by omega) ?_
                | refine k_quo rfl rfl (by omega) ?_
                | refine k_rem rfl rfl (by omega) ?_
                | refine k_conv rfl (by omega) ?_
                | refine k_max rfl rfl ?_
                | refine k_min rfl rfl ?_
                | refine k_lssT rfl rfl (by omega) ?_
                | refine k_lssF rfl rfl (by omega) ?_
                | refine k_lss rfl rfl (fun hc => ?_) (fun hc => ?_)
                | refine k_leqT rfl rfl (by omega) ?_
                | refine k_leqF rfl rfl (by omega) ?_
                | refine k_leq rfl rfl (fun hc => ?_) (fun hc => ?_)
                | refine k_gtrT rfl rfl (by omega) ?_
                | refine k_gtrF rfl rfl (by omega) ?_
                | refine k_gtr rfl rfl (fun hc => ?_) (fun hc => ?_)
                | refine k_geqT rfl rfl (by omega) ?_
                | refine k_geqF rfl rfl (by omega) ?_
                | refine k_geq rfl rfl (fun hc => ?_) (fun hc => ?_)
                | refine k_eqlT rfl rfl (by omega) ?_
                | refine k_eqlF rfl rfl (by omega) ?_
                | refine k_eql rfl rfl (fun hc => ?_) (fun hc => ?_)
                | refine k_neqT rfl rfl (by omega) ?_
                | refine k_neqF rfl rfl (by omega) ?_
                | refine k_neq rfl rfl (fun hc => ?_) (fun hc => ?_)
                | refine k_len rfl rfl ?_
                | refine k_ok rfl rfl ?_))
            all_goals first
              | (exfalso; omega)
              | skip
            refine w_loop (I9 h6 a s7 s9 s11 s13 r.toNat) (cnt r.toNat 116) (R9 h6) ⟨0, Nat.zero_le _, rfl, rfl⟩ (round9 h6 a s7 s9 s11 s13 r.toNat xs ys a6 (by omega) (by omega) (by omega) mx.2 x6 y6 z6 i13) ?_
            rintro ex E' h' ⟨rfl, rfl⟩
            repeat' (first
              | refine w_seq ?_
              | refine w_seqN ?_
              | refine w_seqX ?_
              | refine w_seqR ?_
              | refine w_blk ?_
              | refine w_blkN ?_
              | refine w_blkX ?_
              | refine w_blkR ?_
              | refine w_skip ?_
              | refine w_ret ?_
              | refine w_exit ?_
              | refine w_ops ?_
              | refine w_opsD ?_
              | refine d_one ?_
              | refine d_nil ?_
              | ((refine i_cond ?_); first | refine w_condT rfl ?_ | refine w_condF rfl ?_)
              | ((refine i_nil ?_); first | refine d_same ?_ | refine d_ord ?_ | refine d_ext ⟨_, rfl⟩ ?_ | refine d_ext (by assumption) ?_ | refine w_end0 ?_ | refine w_end1 rfl ?_ | refine w_end2 rfl rfl ?_ | refine w_end3 rfl rfl rfl ?_ | refine w_end4 rfl rfl rfl rfl ?_ | refine w_end5 rfl rfl rfl rfl rfl ?_ | refine w_end6 rfl rfl rfl rfl rfl rfl ?_ | refine w_end7 rfl rfl rfl rfl rfl rfl rfl ?_ | refine w_end8 rfl rfl rfl rfl rfl rfl rfl rfl ?_ | refine w_end9 rfl rfl rfl rfl rfl rfl rfl rfl rfl ?_ | refine w_end10 rfl rfl rfl rfl rfl rfl rfl rfl rfl rfl ?_ | refine w_end11 rfl rfl rfl rfl rfl rfl rfl rfl rfl rfl rfl ?_ | refine w_end12 rfl rfl rfl rfl rfl rfl rfl rfl rfl rfl rfl rfl ?_ | refine w_end13 rfl rfl rfl rfl rfl rfl rfl rfl rfl rfl rfl rfl rfl ?_ | refine w_end14 rfl rfl rfl rfl rfl rfl rfl rfl rfl rfl rfl rfl rfl rfl ?_ | refine w_end15 rfl rfl rfl rfl rfl rfl rfl rfl rfl rfl rfl rfl rfl rfl rfl ?_ | refine w_end16 rfl rfl rfl rfl rfl rfl rfl rfl rfl rfl rfl rfl rfl rfl rfl rfl ?_)
              | ((refine i_cons ?_); first
                | refine k_skip rfl ?_
                | refine k_want rfl ?_
                | refine k_mv rfl ?_
                | refine k_pickT rfl rfl ?_
                | refine k_pickF rfl rfl ?_
                | refine k_notT rfl ?_
                | refine k_notF rfl ?_
                | refine k_add rfl rfl (by omega) ?_
                | refine k_sub rfl rfl (by omega) ?_
                | refine k_mul rfl rfl (by omega) ?_
                | refine k_neg rfl (by omega) ?_
                | refine k_quo rfl rfl (by omega) ?_
                | refine k_rem rfl rfl (by omega) ?_
                | refine k_conv rfl (by omega) ?_
                | refine k_max rfl rfl ?_
                | refine k_min rfl rfl ?_
                | refine k_lssT rfl rfl (by omega) ?_
                | refine k_lssF rfl rfl (by omega) ?_
                | refine k_lss rfl rfl (fun hc => ?_) (fun hc => ?_)
                | refine k_leqT rfl rfl (by omega) ?_
                | refine k_leqF rfl rfl (by omega) ?_
                | refine k_leq rfl rfl (fun hc => ?_) (fun hc => ?_)
                | refine k_gtrT rfl rfl (by omega) ?_
                | refine k_gtrF rfl rfl (by omega) ?_
                | refine k_gtr rfl rfl (fun hc => ?_) (fun hc => ?_)
                | refine k_geqT rfl rfl (by omega) ?_
                | refine k_geqF rfl rfl (by omega) ?_
                | refine k_geq rfl rfl (fun hc => ?_) (fun hc => ?_)
                | refine k_eqlT rfl rfl (by omega) ?_
                | refine k_eqlF rfl rfl (by omega) ?_
                | refine k_eql rfl rfl (fun hc => ?_) (fun hc => ?_)
                | refine k_neqT rfl rfl (by omega) ?_
                | refine k_neqF rfl rfl (by omega) ?_
                | refine k_neq rfl rfl (fun hc => ?_) (fun hc => ?_)
                | refine k_len rfl rfl ?_
                | refine k_ok rfl rfl ?_))
            exact ⟨.inr rfl, rfl⟩
          · have v2 := call16 (HK := HK2) rfl _ b ys r (by omega) (by omega) hb1
            rw [decide_eq_false vb] at v2
            repeat' (first
              | refine w_seq ?_
              | refine w_seqN ?_
              | refine w_seqX ?_
              | refine w_seqR ?_
              | refine w_blk ?_
              | refine w_blkN ?_
              | refine w_blkX ?_
              | refine w_blkR ?_
              | refine w_skip ?_
              | refine w_ret ?_
              | refine w_exit ?_
              | refine w_ops ?_
              | refine w_opsD ?_
              | refine d_one ?_
              | refine d_nil ?_
              | ((refine i_cond ?_); first | refine w_condT rfl ?_ | refine w_condF rfl ?_)
              | ((refine i_nil ?_); first | refine d_same ?_ | refine d_ord ?_ | refine d_ext ⟨_, rfl⟩ ?_ | refine d_ext (by assumption) ?_ | refine w_end0 ?_ | refine w_end1 rfl ?_ | refine w_end2 rfl rfl ?_ | refine w_end3 rfl rfl rfl ?_ | refine w_end4 rfl rfl rfl rfl ?_ | refine w_end5 rfl rfl rfl rfl rfl ?_ | refine w_end6 rfl rfl rfl rfl rfl rfl ?_ | refine w_end7 rfl rfl rfl rfl rfl rfl rfl ?_ | refine w_end8 rfl rfl rfl rfl rfl rfl rfl rfl ?_ | refine w_end9 rfl rfl rfl rfl rfl rfl rfl rfl rfl ?_ | refine w_end10 rfl rfl rfl rfl rfl rfl rfl rfl rfl rfl ?_ | refine w_end11 rfl rfl rfl rfl rfl rfl rfl rfl rfl rfl rfl ?_ | refine w_end12 rfl rfl rfl rfl rfl rfl rfl rfl rfl rfl rfl rfl ?_ | refine w_end13 rfl rfl rfl rfl rfl rfl rfl rfl rfl rfl rfl rfl rfl ?_ | refine w_end14 rfl rfl rfl rfl rfl rfl rfl rfl rfl rfl rfl rfl rfl rfl ?_ | refine w_end15 rfl rfl rfl rfl rfl rfl rfl rfl rfl rfl rfl rfl rfl rfl rfl ?_ | refine w_end16 rfl rfl rfl rfl rfl rfl rfl rfl rfl rfl rfl rfl rfl rfl rfl rfl ?_)
              | ((refine i_cons ?_); first
                | refine k_len rfl l7 ?_
                | (refine k_call rfl v1 ?_; rintro v h' ⟨rfl, rfl⟩)
                | (refine k_call rfl v2 ?_; rintro v h' ⟨rfl, rfl⟩)
                | (refine k_call rfl (call28e (HK := HK2) rfl rfl _ b ys hb1 (by omega) r (by omega) vb) ?_; rintro v h2 ⟨rfl, rfl⟩)
                | refine k_skip rfl ?_
                | refine k_want rfl ?_
                | refine k_mv rfl ?_
                | refine k_pickT rfl rfl ?_
                | refine k_pickF rfl rfl ?_
                | refine k_notT rfl ?_
                | refine k_notF rfl ?_
                | refine k_add rfl rfl (by omega) ?_
                | refine k_sub rfl rfl (by omega) ?_
                | refine k_mul rfl rfl (by omega) ?_
                | refine k_neg rfl (by omega) ?_
                | refine k_quo rfl rfl (by omega) ?_
                | refine k_rem rfl rfl (by omega) ?_
                | refine k_conv rfl (by omega) ?_
                | refine k_max rfl rfl ?_
                | refine k_min rfl rfl ?_
                | refine k_lssT rfl rfl (by omega) ?_
                | refine k_lssF rfl rfl (by omega) ?_
                | refine k_lss rfl rfl (fun hc => ?_) (fun hc => ?_)
                | refine k_leqT rfl rfl (by omega) ?_
                | refine k_leqF rfl rfl (by omega) ?_
                | refine k_leq rfl rfl (fun hc => ?_) (fun hc => ?_)
                | refine k_gtrT rfl rfl (by omega) ?_
                | refine k_gtrF rfl rfl (by omega) ?_
                | refine k_gtr rfl rfl (fun hc => ?_) (fun hc => ?_)
                | refine k_geqT rfl rfl (by omega) ?_
                | refine k_geqF rfl rfl (by omega) ?_
                | refine k_geq rfl rfl (fun hc => ?_) (fun hc => ?_)
                | refine k_eqlT rfl rfl (by omega) ?_
                | refine k_eqlF rfl rfl (by omega) ?_
                | refine k_eql rfl rfl (fun hc => ?_) (fun hc => ?_)
                | refine k_neqT rfl rfl (by omega) ?_
                | refine k_neqF rfl rfl (by omega) ?_
                | refine k_neq rfl rfl (fun hc => ?_) (fun hc => ?_)
                | refine k_len rfl rfl ?_
                | refine k_ok rfl rfl ?_))
            all_goals first
              | exact ⟨.inr rfl, rfl⟩
              | (exfalso; omega)
        · rw [decide_eq_false va] at v1
          repeat' (first
            | refine w_seq ?_
            | refine w_seqN ?_
            | refine w_seqX ?_
            | refine w_seqR ?_
            | refine w_blk ?_
            | refine w_blkN ?_
            | refine w_blkX ?_
            | refine w_blkR ?_
            | refine w_skip ?_
            | refine w_ret ?_
            | refine w_exit ?_
            | refine w_ops ?_
            | refine w_opsD ?_
            | refine d_one ?_
            | refine d_nil ?_
            | ((refine i_cond ?_); first | refine w_condT rfl ?_ | refine w_condF rfl ?_)
            | ((refine i_nil ?_); first | refine d_same ?_ | refine d_ord ?_ | refine d_ext ⟨_, rfl⟩ ?_ | refine d_ext (by assumption) ?_ | refine w_end0 ?_ | refine w_end1 rfl ?_ | refine w_end2 rfl rfl ?_ | refine w_end3 rfl rfl rfl ?_ | refine w_end4 rfl rfl rfl rfl ?_ | refine w_end5 rfl rfl rfl rfl rfl ?_ | refine w_end6 rfl rfl rfl rfl rfl rfl ?_ | refine w_end7 rfl rfl rfl rfl rfl rfl rfl ?_ | refine w_end8 rfl rfl rfl rfl rfl rfl rfl rfl ?_ | refine w_end9 rfl rfl rfl rfl rfl rfl rfl rfl rfl ?_ | refine w_end10 rfl rfl rfl rfl rfl rfl rfl rfl rfl rfl ?_ | refine w_end11 rfl rfl rfl rfl rfl rfl rfl rfl rfl rfl rfl ?_ | refine w_end12 rfl rfl rfl rfl rfl rfl rfl rfl rfl rfl rfl rfl ?_ | refine w_end13 rfl rfl rfl rfl rfl rfl rfl rfl rfl rfl rfl rfl rfl ?_ | refine w_end14 rfl rfl rfl rfl rfl rfl rfl rfl rfl rfl rfl rfl rfl rfl ?_ | refine w_end15 rfl rfl rfl rfl rfl rfl rfl rfl rfl rfl rfl rfl rfl rfl rfl ?_ | refine w_end16 rfl rfl rfl rfl rfl rfl rfl rfl rfl rfl rfl rfl rfl rfl rfl rfl ?_)
            | ((refine i_cons ?_); first
              | (refine k_call rfl (awake_call2 _) ?_; rintro v h' ⟨rfl, rfl⟩)
              | (refine k_call rfl k1 ?_; rintro v h' ⟨rfl, rfl⟩)
              | (refine k_call rfl k2 ?_; rintro v h' ⟨rfl, rfl⟩)
              | (refine k_call rfl v1 ?_; rintro v h' ⟨rfl, rfl⟩)
              | (refine k_call rfl (call28e (HK := HK2) rfl rfl _ a xs ha (by omega) r (by omega) va) ?_; rintro v h' ⟨rfl, rfl⟩)
              | refine k_skip rfl ?_
              | refine k_want rfl ?_
              | refine k_mv rfl ?_
              | refine k_pickT rfl rfl ?_
              | refine k_pickF rfl rfl ?_
              | refine k_notT rfl ?_
              | refine k_notF rfl ?_
              | refine k_add rfl rfl (by omega) ?_
              | refine k_sub rfl rfl (by omega) ?_
              | refine k_mul rfl rfl (by omega) ?_
              | refine k_neg rfl (by omega) ?_
              | refine k_quo rfl rfl (by omega) ?_
              | refine k_rem rfl rfl (by omega) ?_
              | refine k_conv rfl (by omega) ?_
              | refine k_max rfl rfl ?_
              | refine k_min rfl rfl ?_
              | refine k_lssT rfl rfl (by omega) ?_
              | refine k_lssF rfl rfl (by omega) ?_
              | refine k_lss rfl rfl (fun hc => ?_) (fun hc => ?_)
              | refine k_leqT rfl rfl (by omega) ?_
              | refine k_leqF rfl rfl (by omega) ?_
              | refine k_leq rfl rfl (fun hc => ?_) (fun hc => ?_)
              | refine k_gtrT rfl rfl (by omega) ?_
              | refine k_gtrF rfl rfl (by omega) ?_
              | refine k_gtr rfl rfl (fun hc => ?_) (fun hc => ?_)
              | refine k_geqT rfl rfl (by omega) ?_
              | refine k_geqF rfl rfl (by omega) ?_
              | refine k_geq rfl rfl (fun hc => ?_) (fun hc => ?_)
              | refine k_eqlT rfl rfl (by omega) ?_
              | refine k_eqlF rfl rfl (by omega) ?_
              | refine k_eql rfl rfl (fun hc => ?_) (fun hc => ?_)
              | refine k_neqT rfl rfl (by omega) ?_
              | refine k_neqF rfl rfl (by omega) ?_
              | refine k_neq rfl rfl (fun hc => ?_) (fun hc => ?_)
              | refine k_len rfl rfl ?_
              | refine k_ok rfl rfl ?_))
          all_goals first
            | exact ⟨.inr rfl, rfl⟩
            | (exfalso; omega)
      · repeat' (first
   | refine w_seq ?_
   | refine w_seqN ?_
   | refine w_seqX ?_
   | refine w_seqR ?_
   | refine w_blk ?_
   | refine w_blkN ?_
   | refine w_blkX ?_
   | refine w_blkR ?_
   | refine w_skip ?_
   | refine w_ret ?_
   | refine w_exit ?_
   | refine w_ops ?_
   | refine w_opsD ?_
   | refine d_one ?_
   | refine d_nil ?_
   | ((refine i_cond ?_); first | refine w_condT rfl ?_ | refine w_condF rfl ?_)
   | ((refine i_nil ?_); first | refine d_same ?_ | refine d_ord ?_ | refine d_ext ⟨_, rfl⟩ ?_ | refine d_ext (by assumption) ?_ | refine w_end0 ?_ | refine w_end1 rfl ?_ | refine w_end2 rfl rfl ?_ | refine w_end3 rfl rfl rfl ?_ | refine w_end4 rfl rfl rfl rfl ?_ | refine w_end5 rfl rfl rfl rfl rfl ?_ | refine w_end6 rfl rfl rfl rfl rfl rfl ?_ | refine w_end7 rfl rfl rfl rfl rfl rfl rfl ?_ | refine w_end8 rfl rfl rfl rfl rfl rfl rfl rfl ?_ | refine w_end9 rfl rfl rfl rfl rfl rfl rfl rfl rfl ?_ | refine w_end10 rfl rfl rfl rfl rfl rfl rfl rfl rfl rfl ?_ | refine w_end11 rfl rfl rfl rfl rfl rfl rfl rfl rfl rfl rfl ?_ | refine w_end12 rfl rfl rfl rfl rfl rfl rfl rfl rfl rfl rfl rfl ?_ | refine w_end13 rfl rfl rfl rfl rfl rfl rfl rfl rfl rfl rfl rfl rfl ?_ | refine w_end14 rfl rfl rfl rfl rfl rfl rfl rfl rfl rfl rfl rfl rfl rfl ?_ | refine w_end15 rfl rfl rfl rfl rfl rfl rfl rfl rfl rfl rfl rfl rfl rfl rfl ?_ | refine w_end16 rfl rfl rfl rfl rfl rfl rfl rfl rfl rfl rfl rfl rfl rfl rfl rfl ?_)
   | ((refine i_cons ?_); first
     | (refine k_call rfl (awake_call2 _) ?_; rintro v h' ⟨rfl, rfl⟩)
     | (refine k_call rfl k1 ?_; rintro v h' ⟨rfl, rfl⟩)
     | (refine k_call rfl k2 ?_; rintro v h' ⟨rfl, rfl⟩)
     | refine k_skip rfl ?_
     | refine k_want rfl ?_
     | refine k_mv rfl ?_
     | refine k_pickT rfl rfl ?_
     | refine k_pickF rfl rfl ?_
     | refine k_notT rfl ?_
     | refine k_notF rfl ?_
     | refine k_add rfl rfl (by omega) ?_
     | refine k_sub rfl rfl (by omega) ?_
     | refine k_mul rfl rfl (by omega) ?_
     | refine k_neg rfl (by omega) ?_
     | refine k_quo rfl rfl (by omega) ?_
     | refine k_rem rfl rfl (by omega) ?_
     | refine k_conv rfl (by omega) ?_
     | refine k_max rfl rfl ?_
     | refine k_min rfl rfl ?_
     | refine k_lssT rfl rfl (by omega) ?_
     | refine k_lssF rfl rfl (by omega) ?_
     | refine k_lss rfl rfl (fun hc => ?_) (fun hc => ?_)
     | refine k_leqT rfl rfl (by omega) ?_
     | refine k_leqF rfl rfl (by omega) ?_
     | refine k_leq rfl rfl (fun hc => ?_) (fun hc => ?_)
     | refine k_gtrT rfl rfl (by omega) ?_
     | refine k_gtrF rfl rfl (by omega) ?_
     | refine k_gtr rfl rfl (fun hc => ?_) (fun hc => ?_)
     | refine k_geqT rfl rfl (by omega) ?_
     | refine k_geqF rfl rfl (by omega) ?_
     | refine k_geq rfl rfl (fun hc => ?_) (fun hc => ?_)
     | refine k_eqlT rfl rfl (by omega) ?_
     | refine k_eqlF rfl rfl (by omega) ?_
     | refine k_eql rfl rfl (fun hc => ?_) (fun hc => ?_)
     | refine k_neqT rfl rfl (by omega) ?_
     | refine k_neqF rfl rfl (by omega) ?_
     | refine k_neq rfl rfl (fun hc => ?_) (fun hc => ?_)
     | refine k_len rfl rfl ?_
     | refine k_ok rfl rfl ?_))
        all_goals first
          | exact ⟨.inr rfl, rfl⟩
          | (exfalso; omega)
    · rw [decide_eq_false hy] at k2
      repeat' (first
        | refine w_seq ?_
        | refine w_seqN ?_
        | refine w_seqX ?_
        | refine w_seqR ?_
        | refine w_blk ?_
        | refine w_blkN ?_
        | refine w_blkX ?_
        | refine w_blkR ?_
        | refine w_skip ?_
        | refine w_ret ?_
        | refine w_exit ?_
        | refine w_ops ?_
        | refine w_opsD ?_
        | refine d_one ?_
        | refine d_nil ?_
        | ((refine i_cond ?_); first | refine w_condT rfl ?_ | refine w_condF rfl ?_)
        | ((refine i_nil ?_); first | refine d_same ?_ | refine d_ord ?_ | refine d_ext ⟨_, rfl⟩ ?_ | refine d_ext (by assumption) ?_ | refine w_end0 ?_ | refine w_end1 rfl ?_ | refine w_end2 rfl rfl ?_ | refine w_end3 rfl rfl rfl ?_ | refine w_end4 rfl rfl rfl rfl ?_ | refine w_end5 rfl rfl rfl rfl rfl ?_ | refine w_end6 rfl rfl rfl rfl rfl rfl ?_ | refine w_end7 rfl rfl rfl rfl rfl rfl rfl ?_ | refine w_end8 rfl rfl rfl rfl rfl rfl rfl rfl ?_ | refine w_end9 rfl rfl rfl rfl rfl rfl rfl rfl rfl ?_ | refine w_end10 rfl rfl rfl rfl rfl rfl rfl rfl rfl rfl ?_ | refine w_end11 rfl rfl rfl rfl rfl rfl rfl rfl rfl rfl rfl ?_ | refine w_end12 rfl rfl rfl rfl rfl rfl rfl rfl rfl rfl rfl rfl ?_ | refine w_end13 rfl rfl rfl rfl rfl rfl rfl rfl rfl rfl rfl rfl rfl ?_ | refine w_end14 rfl rfl rfl rfl rfl rfl rfl rfl rfl rfl rfl rfl rfl rfl ?_ | refine w_end15 rfl rfl rfl rfl rfl rfl rfl rfl rfl rfl rfl rfl rfl rfl rfl ?_ | refine w_end16 rfl rfl rfl rfl rfl rfl rfl rfl rfl rfl rfl rfl rfl rfl rfl rfl ?_)
        | ((refine i_cons ?_); first
          | (refine k_call rfl (awake_call2 _) ?_; rintro v h' ⟨rfl, rfl⟩)
          | (refine k_call rfl k1 ?_; rintro v h' ⟨rfl, rfl⟩)
          | (refine k_call rfl k2 ?_; rintro v h' ⟨rfl, rfl⟩)
          | refine k_skip rfl ?_
          | refine k_want rfl ?_
          | refine k_mv rfl ?_
          | refine k_pickT rfl rfl ?_
          | refine k_pickF rfl rfl ?_
          | refine k_notT rfl ?_
          | refine k_notF rfl ?_
          | refine k_add rfl rfl (by omega) ?_
          | refine k_sub rfl rfl (by omega) ?_
          | refine k_mul rfl rfl (by omega) ?_
          | refine k_neg rfl (by omega) ?_
          | refine k_quo rfl rfl (by omega) ?_
          | refine k_rem rfl rfl (by omega) ?_
          | refine k_conv rfl (by omega) ?_
          | refine k_max rfl rfl ?_
          | refine k_min rfl rfl ?_
          | refine k_lssT rfl rfl (by omega) ?_
          | refine k_lssF rfl rfl (by omega) ?_
          | refine k_lss rfl rfl (fun hc => ?_) (fun hc => ?_)
          | refine k_leqT rfl rfl (by omega) ?_
          | refine k_leqF rfl rfl (by omega) ?_
          | refine k_leq rfl rfl (fun hc => ?_) (fun hc => ?_)
          | refine k_gtrT rfl rfl (by omega) ?_
          | refine k_gtrF rfl rfl (by omega) ?_
          | refine k_gtr rfl rfl (fun hc => ?_) (fun hc => ?_)
          | refine k_geqT rfl rfl (by omega) ?_
          | refine k_geqF rfl rfl (by omega) ?_
          | refine k_geq rfl rfl (fun hc => ?_) (fun hc => ?_)
          | refine k_eqlT rfl rfl (by omega) ?_
          | refine k_eqlF rfl rfl (by omega) ?_
          | refine k_eql rfl rfl (fun hc => ?_) (fun hc => ?_)
          | refine k_neqT rfl rfl (by omega) ?_
          | refine k_neqF rfl rfl (by omega) ?_
          | refine k_neq rfl rfl (fun hc => ?_) (fun hc => ?_)
          | refine k_len rfl rfl ?_
          | refine k_ok rfl rfl ?_))
      exact ⟨.inr rfl, rfl⟩
  · rw [decide_eq_false hx] at k1
    repeat' (first
      | refine w_seq ?_
      | refine w_seqN ?_
      | refine w_seqX ?_
      | refine w_seqR ?_
      | refine w_blk ?_
      | refine w_blkN ?_
      | refine w_blkX ?_
      | refine w_blkR ?_
      | refine w_skip ?_
      | refine w_ret ?_
      | refine w_exit ?_
      | refine w_ops ?_
      | refine w_opsD ?_
      | refine d_one ?_
      | refine d_nil ?_
      | ((refine i_cond ?_); first | refine w_condT rfl ?_ | refine w_condF rfl ?_)
      | ((refine i_nil ?_); first | refine d_same ?_ | refine d_ord ?_ | refine d_ext ⟨_, rfl⟩ ?_ | refine d_ext (by assumption) ?_ | refine w_end0 ?_ | refine w_end1 rfl ?_ | refine w_end2 rfl rfl ?_ | refine w_end3 rfl rfl rfl ?_ | refine w_end4 rfl rfl rfl rfl ?_ | refine w_end5 rfl rfl rfl rfl rfl ?_ | refine w_end6 rfl rfl rfl rfl rfl rfl ?_ | refine w_end7 rfl rfl rfl rfl rfl rfl rfl ?_ | refine w_end8 rfl rfl rfl rfl rfl rfl rfl rfl ?_ | refine w_end9 rfl rfl rfl rfl rfl rfl rfl rfl rfl ?_ | refine w_end10 rfl rfl rfl rfl rfl rfl rfl rfl rfl rfl ?_ | refine w_end11 rfl rfl rfl rfl rfl rfl rfl rfl rfl rfl rfl ?_ | refine w_end12 rfl rfl rfl rfl rfl rfl rfl rfl rfl rfl rfl rfl ?_ | refine w_end13 rfl rfl rfl rfl rfl rfl rfl rfl rfl rfl rfl rfl rfl ?_ | refine w_end14 rfl rfl rfl rfl rfl rfl rfl rfl rfl rfl rfl rfl rfl rfl ?_ | refine w_end15 rfl rfl rfl rfl rfl rfl rfl rfl rfl rfl rfl rfl rfl rfl rfl ?_ | refine w_end16 rfl rfl rfl rfl rfl rfl rfl rfl rfl rfl rfl rfl rfl rfl rfl rfl ?_)
      | ((refine i_cons ?_); first
        | (refine k_call rfl (awake_call2 _) ?_; rintro v h' ⟨rfl, rfl⟩)
        | (refine k_call rfl k1 ?_; rintro v h' ⟨rfl, rfl⟩)
        | refine k_skip rfl ?_
        | refine k_want rfl ?_
        | refine k_mv rfl ?_
        | refine k_pickT rfl rfl ?_
        | refine k_pickF rfl rfl ?_
        | refine k_notT rfl ?_
        | refine k_notF rfl ?_
        | refine k_add rfl rfl (by omega) ?_
        | refine k_sub rfl rfl (by omega) ?_
        | refine k_mul rfl rfl (by omega) ?_
        | refine k_neg rfl (by omega) ?_
        | refine k_quo rfl rfl (by omega) ?_
        | refine k_rem rfl rfl (by omega) ?_
        | refine k_conv rfl (by omega) ?_
        | refine k_max rfl rfl ?_
        | refine k_min rfl rfl ?_
        | refine k_lssT rfl rfl (by omega) ?_
        | refine k_lssF rfl rfl (by omega) ?_
        | refine k_lss rfl rfl (fun hc => ?_) (fun hc => ?_)
        | refine k_leqT rfl rfl (by omega) ?_
        | refine k_leqF rfl rfl (by omega) ?_
        | refine k_leq rfl rfl (fun hc => ?_) (fun hc => ?_)
        | refine k_gtrT rfl rfl (by omega) ?_
        | refine k_gtrF rfl rfl (by omega) ?_
        | refine k_gtr rfl rfl (fun hc => ?_) (fun hc => ?_)
        | refine k_geqT rfl rfl (by omega) ?_
        | refine k_geqF rfl rfl (by omega) ?_
        | refine k_geq rfl rfl (fun hc => ?_) (fun hc => ?_)
        | refine k_eqlT rfl rfl (by omega) ?_
        | refine k_eqlF rfl rfl (by omega) ?_
        | refine k_eql rfl rfl (fun hc => ?_) (fun hc => ?_)
        | refine k_neqT rfl rfl (by omega) ?_
        | refine k_neqF rfl rfl (by omega) ?_
        | refine k_neq rfl rfl (fun hc => ?_) (fun hc => ?_)
        | refine k_len rfl rfl ?_
        | refine k_ok rfl rfl ?_))
    exact ⟨.inr rfl, rfl⟩
end Go.Proofs.YtgmfjhmphiiifaaDoor
