/- The law GridCrosses, reckoned. -/
import Derived.Test.YtadelcikpkhclaaDoorG16
namespace Go.Ab
theorem Wr.own {B h h1 : Heap} {q : Nat} {a b t : SV} {vs : List SV} (w : Wr h h1 q a b) (ho : Own B h t vs) : Own B h1 t vs := by
  obtain ⟨c, d, hc⟩ := w.old
  rcases ho with ho | ⟨id, cap, cs, e1, e2, e3, e4, e5⟩
  · exact .inl ho
  · refine .inr ⟨id, cap, cs, e1, e2, ?_, e4, e5⟩
    rw [w.eq, List.getElem?_set_ne (by rintro rfl; rw [hc] at e3; simp at e3; exact absurd (show (0 : ESz) = 1 from e3.2) (by decide))]
    exact e3
theorem Wr.own2 {B h h1 : Heap} {q n : Nat} {a b t : SV} {vs : List SV} (w : Wr h h1 q a b) (ho : Own2 B h t n vs) : Own2 B h1 t n vs := by
  obtain ⟨c, d, hc⟩ := w.old
  rcases ho with ho | ⟨id, e1, e2, e3, e4, e5⟩
  · exact .inl ho
  · refine .inr ⟨id, e1, e2, ?_, e4, e5⟩
    rw [w.eq, List.getElem?_set_ne (by rintro rfl; rw [hc] at e3; simp at e3; exact absurd (show (0 : ESz) = 2 from e3.2) (by decide))]
    exact e3
theorem Own.notAt {B h : Heap} {t : SV} {vs cs : List SV} {j : Nat} {r : Bool} {z : ESz} (ho : Own B h t vs) (hj : h[j]? = some (.cells cs r z)) (hz : z ≠ 1) : NotAt t j := by
  rcases ho with ⟨rfl, _⟩ | ⟨id, cap, cs', rfl, e2, e3, e4, e5⟩
  · intro a b c h; cases h
  · intro a b c h
    cases h
    rw [hj] at e3
    simp at e3
    exact hz e3.2.2
end Go.Ab
namespace Go.Proofs.YtadelcikpkhclaaDoor
open Go.Ab
set_option linter.unusedVariables false
set_option maxRecDepth 20000
attribute [local irreducible] wOps wA wSeq wBlk wRound wOpsD
variable {HK : FuncId → Option Hook}

/-! ### slices.Index -/
def I20 (h0 : Heap) (s : SV) (n j : Nat) (xs : List Int) (x : Int) (E : Env) (h : Heap) : Prop := ∃ i : Nat, i ≤ j ∧ h = h0 ∧ E = [(0, some (.sc s)), (1, some (.sc (.int .i64 x))), (7, some (.sc (.int .i64 n))), (8, some (.sc (.int .i64 i)))]
def R20 (h0 : Heap) (j : Nat) (ex : Ex) (E : Env) (h : Heap) : Prop := ex = .rt ∧ h = h0 ∧ E = [(4, some (.sc (.int .i64 j)))]
theorem round20 (h0 : Heap) (s : SV) (n j : Nat) (xs : List Int) (x : Int) (hs : IsInts h0 s xs) (hp : Pm n xs) (hj : j < n) (hx : atN xs j = x) (hn : n ≤ 1000) (E : Env) (h : Heap) (hI : I20 h0 s n j xs x E h) :
    wA FT HK b20L0 (E.keep [0, 1, 7, 8]) h (wRound (I20 h0 s n j xs x) (cnt n 8) (cnt n 8 E h) (R20 h0 j)) := by
  obtain ⟨i, hi, rfl, rfl⟩ := hI
  have e1 := hp.len
  obtain ⟨iX, oX, cX, rfl, hrX⟩ := IsInts.at hs (atN_get (xs := xs) (k := i) (by omega))
  by_cases hij : i = j
  · subst hij
    rw [hx] at hrX
    repeat' (first
      | refine w_seq ?_
      | refine w_seqN ?_
      | refine w_seqX ?_
      | refine w_seqR ?_
      | refine w_blk ?_
      | refine w_blkN ?_
      | refine w_blkX ?_
      | refine w_blkR ?_
      | refine w_skip ?_
      | refine w_ret ?_
      | refine w_exit ?_
      | refine w_ops ?_
      | refine w_opsD ?_
      | refine d_one ?_
      | refine d_nil ?_
      | ((refine i_cond ?_); first | refine w_condT rfl ?_ | refine w_condF rfl ?_)
      | ((refine i_nil ?_); first | refine d_same ?_ | refine d_ord ?_ | refine d_ext ⟨_, rfl⟩ ?_ | refine d_ext (extA _ _ _) ?_ | refine d_ext (by assumption) ?_ | refine w_end0 ?_ | refine w_end1 rfl ?_ | refine w_end2 rfl rfl ?_ | refine w_end3 rfl rfl rfl ?_ | refine w_end4 rfl rfl rfl rfl ?_ | refine w_end5 rfl rfl rfl rfl rfl ?_ | refine w_end6 rfl rfl rfl rfl rfl rfl ?_ | refine w_end7 rfl rfl rfl rfl rfl rfl rfl ?_ | refine w_end8 rfl rfl rfl rfl rfl rfl rfl rfl ?_ | refine w_end9 rfl rfl rfl rfl rfl rfl rfl rfl rfl ?_ | refine w_end10 rfl rfl rfl rfl rfl rfl rfl rfl rfl rfl ?_ | refine w_end11 rfl rfl rfl rfl rfl rfl rfl rfl rfl rfl rfl ?_ | refine w_end12 rfl rfl rfl rfl rfl rfl rfl rfl rfl rfl rfl rfl ?_ | refine w_end13 rfl rfl rfl rfl rfl rfl rfl rfl rfl rfl rfl rfl rfl ?_ | refine w_end14 rfl rfl rfl rfl rfl rfl rfl rfl rfl rfl rfl rfl rfl rfl ?_ | refine w_end15 rfl rfl rfl rfl rfl rfl rfl rfl rfl rfl rfl rfl rfl rfl rfl ?_ | refine w_end16 rfl rfl rfl rfl rfl rfl rfl rfl rfl rfl rfl rfl rfl rfl rfl rfl ?_)
      | ((refine i_cons ?_); first
        | refine k_idxA rfl rfl (by omega) ?_
        | refine k_ld rfl hrX ?_
        | refine k_skip rfl ?_
        | refine k_want rfl ?_
        | refine k_mv rfl ?_
        | refine k_pickT rfl rfl ?_
        | refine k_pickF rfl rfl ?_
        | refine k_notT rfl ?_
        | refine k_notF rfl ?_
        | refine k_add rfl rfl (by omega) ?_
        | refine k_sub rfl rfl (by omega) ?_
        | refine k_mul rfl rfl (by omega) ?_
        | refine k_neg rfl (by omega) ?_
        | refine k_quo rfl rfl (by omega) ?_
        | refine k_rem rfl rfl (by omega) ?_
        | refine k_conv rfl (by omega) ?_
        | refine k_max rfl rfl ?_
        | refine k_min rfl rfl ?_
        | refine k_lssT rfl rfl (by omega) ?_
        | refine k_lssF rfl rfl (by omega) ?_
        | refine k_lss rfl rfl (fun hc => ?_) (fun hc => ?_)
        | refine k_leqT rfl rfl (by omega) ?_
        | refine k_leqF rfl rfl (by omega) ?_
        | refine k_leq rfl rfl (fun hc => ?_) (fun hc => ?_)
        | refine k_gtrT rfl rfl (by omega) ?_
        | refine k_gtrF rfl rfl (by omega) ?_
        | refine k_gtr rfl rfl (fun hc => ?_) (fun hc => ?_)
        | refine k_geqT rfl rfl (by omega) ?_
        | refine k_geqF rfl rfl (by omega) ?_
        | refine k_geq rfl rfl (fun hc => ?_) (fun hc => ?_)
        | refine k_eqlT rfl rfl (by omega) ?_
        | refine k_eqlF rfl rfl (by omega) ?_
        | refine k_eql rfl rfl (fun hc => ?_) (fun hc => ?_)
        | refine k_neqT rfl rfl (by omega) ?_
        | refine k_neqF rfl rfl (by omega) ?_
        | refine k_neq rfl rfl (fun hc => ?_) (fun hc => ?_)
        | refine k_len rfl rfl ?_
        | refine k_ok rfl rfl ?_))
    exact w_roundR ⟨rfl, rfl, rfl⟩
  · have hne : x ≠ atN xs i := fun e => hij (hp.inj (by omega) hj (by rw [hx]; exact e.symm))
    repeat' (first
      | refine w_seq ?_
      | refine w_seqN ?_
      | refine w_seqX ?_
      | refine w_seqR ?_
      | refine w_blk ?_
      | refine w_blkN ?_
      | refine w_blkX ?_
      | refine w_blkR ?_
      | refine w_skip ?_
      | refine w_ret ?_
      | refine w_exit ?_
      | refine w_ops ?_
      | refine w_opsD ?_
      | refine d_one ?_
      | refine d_nil ?_
      | ((refine i_cond ?_); first | refine w_condT rfl ?_ | refine w_condF rfl ?_)
      | ((refine i_nil ?_); first | refine d_same ?_ | refine d_ord ?_ | refine d_ext ⟨_, rfl⟩ ?_ | refine d_ext (extA _ _ _) ?_ | refine d_ext (by assumption) ?_ | refine w_end0 ?_ | refine w_end1 rfl ?_ | refine w_end2 rfl rfl ?_ | refine w_end3 rfl rfl rfl ?_ | refine w_end4 rfl rfl rfl rfl ?_ | refine w_end5 rfl rfl rfl rfl rfl ?_ | refine w_end6 rfl rfl rfl rfl rfl rfl ?_ | refine w_end7 rfl rfl rfl rfl rfl rfl rfl ?_ | refine w_end8 rfl rfl rfl rfl rfl rfl rfl rfl ?_ | refine w_end9 rfl rfl rfl rfl rfl rfl rfl rfl rfl ?_ | refine w_end10 rfl rfl rfl rfl rfl rfl rfl rfl rfl rfl ?_ | refine w_end11 rfl rfl rfl rfl rfl rfl rfl rfl rfl rfl rfl ?_ | refine w_end12 rfl rfl rfl rfl rfl rfl rfl rfl rfl rfl rfl rfl ?_ | refine w_end13 rfl rfl rfl rfl rfl rfl rfl rfl rfl rfl rfl rfl rfl ?_ | refine w_end14 rfl rfl rfl rfl rfl rfl rfl rfl rfl rfl rfl rfl rfl rfl ?_ | refine w_end15 rfl rfl rfl rfl rfl rfl rfl rfl rfl rfl rfl rfl rfl rfl rfl ?_ | refine w_end16 rfl rfl rfl rfl rfl rfl rfl rfl rfl rfl rfl rfl rfl rfl rfl rfl ?_)
      | ((refine i_cons ?_); first
        | refine k_idxA rfl rfl (by omega) ?_
        | refine k_ld rfl hrX ?_
        | refine k_skip rfl ?_
        | refine k_want rfl ?_
        | refine k_mv rfl ?_
        | refine k_pickT rfl rfl ?_
        | refine k_pickF rfl rfl ?_
        | refine k_notT rfl ?_
        | refine k_notF rfl ?_
        | refine k_add rfl rfl (by omega) ?_
        | refine k_sub rfl rfl (by omega) ?_
        | refine k_mul rfl rfl (by omega) ?_
        | refine k_neg rfl (by omega) ?_
        | refine k_quo rfl rfl (by omega) ?_
        | refine k_rem rfl rfl (by omega) ?_
        | refine k_conv rfl (by omega) ?_
        | refine k_max rfl rfl ?_
        | refine k_min rfl rfl ?_
        | refine k_lssT rfl rfl (by omega) ?_
        | refine k_lssF rfl rfl (by omega) ?_
        | refine k_lss rfl rfl (fun hc => ?_) (fun hc => ?_)
        | refine k_leqT rfl rfl (by omega) ?_
        | refine k_leqF rfl rfl (by omega) ?_
        | refine k_leq rfl rfl (fun hc => ?_) (fun hc => ?_)
        | refine k_gtrT rfl rfl (by omega) ?_
        | refine k_gtrF rfl rfl (by omega) ?_
        | refine k_gtr rfl rfl (fun hc => ?_) (fun hc => ?_)
        | refine k_geqT rfl rfl (by omega) ?_
        | refine k_geqF rfl rfl (by omega) ?_
        | refine k_geq rfl rfl (fun hc => ?_) (fun hc => ?_)
        | refine k_eqlT rfl rfl (by omega) ?_
        | refine k_eqlF rfl rfl (by omega) ?_
        | refine k_eql rfl rfl (fun hc => ?_) (fun hc => ?_)
        | refine k_neqT rfl rfl (by omega) ?_
        | refine k_neqF rfl rfl (by omega) ?_
        | refine k_neq rfl rfl (fun hc => ?_) (fun hc => ?_)
        | refine k_len rfl rfl ?_
        | refine k_ok rfl rfl ?_))
    exact w_roundN ⟨i + 1, by omega, rfl, rfl⟩ (by simp [cnt, Env.get]; omega)
theorem call20 (hk : HK 20 = none) (h0 : Heap) (s : SV) (n j : Nat) (xs : List Int) (hs : IsInts h0 s xs) (hp : Pm n xs) (hj : j < n) (hn : n ≤ 1000) :
    ∃ v h', Cal FT HK 20 [.sc s, .sc (.int .i64 j)] h0 v h' ∧ h' = h0 ∧ v = .sc (.int .i64 (col xs j : Nat)) := by
  refine Cal.of (F := a20) hk rfl rfl ?_
  have hl1 := IsSl.len hs
  rw [hp.len] at hl1
  have hr : In01 n (j : Int) := ⟨by omega, by omega⟩
  repeat' (first
    | refine w_seq ?_
    | refine w_seqN ?_
    | refine w_seqX ?_
    | refine w_seqR ?_
    | refine w_blk ?_
    | refine w_blkN ?_
    | refine w_blkX ?_
    | refine w_blkR ?_
    | refine w_skip ?_
    | refine w_ret ?_
    | refine w_exit ?_
    | refine w_ops ?_
    | refine w_opsD ?_
    | refine d_one ?_
    | refine d_nil ?_
    | ((refine i_cond ?_); first | refine w_condT rfl ?_ | refine w_condF rfl ?_)
    | ((refine i_nil ?_); first | refine d_same ?_ | refine d_ord ?_ | refine d_ext ⟨_, rfl⟩ ?_ | refine d_ext (extA _ _ _) ?_ | refine d_ext (by assumption) ?_ | refine w_end0 ?_ | refine w_end1 rfl ?_ | refine w_end2 rfl rfl ?_ | refine w_end3 rfl rfl rfl ?_ | refine w_end4 rfl rfl rfl rfl ?_ | refine w_end5 rfl rfl rfl rfl rfl ?_ | refine w_end6 rfl rfl rfl rfl rfl rfl ?_ | refine w_end7 rfl rfl rfl rfl rfl rfl rfl ?_ | refine w_end8 rfl rfl rfl rfl rfl rfl rfl rfl ?_ | refine w_end9 rfl rfl rfl rfl rfl rfl rfl rfl rfl ?_ | refine w_end10 rfl rfl rfl rfl rfl rfl rfl rfl rfl rfl ?_ | refine w_end11 rfl rfl rfl rfl rfl rfl rfl rfl rfl rfl rfl ?_ | refine w_end12 rfl rfl rfl rfl rfl rfl rfl rfl rfl rfl rfl rfl ?_ | refine w_end13 rfl rfl rfl rfl rfl rfl rfl rfl rfl rfl rfl rfl rfl ?_ | refine w_end14 rfl rfl rfl rfl rfl rfl rfl rfl rfl rfl rfl rfl rfl rfl ?_ | refine w_end15 rfl rfl rfl rfl rfl rfl rfl rfl rfl rfl rfl rfl rfl rfl rfl ?_ | refine w_end16 rfl rfl rfl rfl rfl rfl rfl rfl rfl rfl rfl rfl rfl rfl rfl rfl ?_)
    | ((refine i_cons ?_); first
      | refine k_len rfl hl1 ?_
      | refine k_skip rfl ?_
      | refine k_want rfl ?_
      | refine k_mv rfl ?_
      | refine k_pickT rfl rfl ?_
      | refine k_pickF rfl rfl ?_
      | refine k_notT rfl ?_
      | refine k_notF rfl ?_
      | refine k_add rfl rfl (by omega) ?_
      | refine k_sub rfl rfl (by omega) ?_
      | refine k_mul rfl rfl (by omega) ?_
      | refine k_neg rfl (by omega) ?_
      | refine k_quo rfl rfl (by omega) ?_
      | refine k_rem rfl rfl (by omega) ?_
      | refine k_conv rfl (by omega) ?_
      | refine k_max rfl rfl ?_
      | refine k_min rfl rfl ?_
      | refine k_lssT rfl rfl (by omega) ?_
      | refine k_lssF rfl rfl (by omega) ?_
      | refine k_lss rfl rfl (fun hc => ?_) (fun hc => ?_)
      | refine k_leqT rfl rfl (by omega) ?_
      | refine k_leqF rfl rfl (by omega) ?_
      | refine k_leq rfl rfl (fun hc => ?_) (fun hc => ?_)
      | refine k_gtrT rfl rfl (by omega) ?_
      | refine k_gtrF rfl rfl (by omega) ?_
      | refine k_gtr rfl rfl (fun hc => ?_) (fun hc => ?_)
      | refine k_geqT rfl rfl (by omega) ?_
      | refine k_geqF rfl rfl (by omega) ?_
      | refine k_geq rfl rfl (fun hc => ?_) (fun hc => ?_)
      | refine k_eqlT rfl rfl (by omega) ?_
      | refine k_eqlF rfl rfl (by omega) ?_
      | refine k_eql rfl rfl (fun hc => ?_) (fun hc => ?_)
      | refine k_neqT rfl rfl (by omega) ?_
      | refine k_neqF rfl rfl (by omega) ?_
      | refine k_neq rfl rfl (fun hc => ?_) (fun hc => ?_)
      | refine k_len rfl rfl ?_
      | refine k_ok rfl rfl ?_))
  refine w_loop (I20 h0 s n (col xs j) xs j) (cnt n 8) (R20 h0 (col xs j)) ⟨0, Nat.zero_le _, rfl, rfl⟩ (round20 h0 s n (col xs j) xs j hs hp (hp.col_lt hr) (hp.at_col hr) hn) ?_
  rintro ex E' h' ⟨rfl, rfl, rfl⟩
  repeat' (first
    | refine w_seq ?_
    | refine w_seqN ?_
    | refine w_seqX ?_
    | refine w_seqR ?_
    | refine w_blk ?_
    | refine w_blkN ?_
    | refine w_blkX ?_
    | refine w_blkR ?_
    | refine w_skip ?_
    | refine w_ret ?_
    | refine w_exit ?_
    | refine w_ops ?_
    | refine w_opsD ?_
    | refine d_one ?_
    | refine d_nil ?_
    | ((refine i_cond ?_); first | refine w_condT rfl ?_ | refine w_condF rfl ?_)
    | ((refine i_nil ?_); first | refine d_same ?_ | refine d_ord ?_ | refine d_ext ⟨_, rfl⟩ ?_ | refine d_ext (extA _ _ _) ?_ | refine d_ext (by assumption) ?_ | refine w_end0 ?_ | refine w_end1 rfl ?_ | refine w_end2 rfl rfl ?_ | refine w_end3 rfl rfl rfl ?_ | refine w_end4 rfl rfl rfl rfl ?_ | refine w_end5 rfl rfl rfl rfl rfl ?_ | refine w_end6 rfl rfl rfl rfl rfl rfl ?_ | refine w_end7 rfl rfl rfl rfl rfl rfl rfl ?_ | refine w_end8 rfl rfl rfl rfl rfl rfl rfl rfl ?_ | refine w_end9 rfl rfl rfl rfl rfl rfl rfl rfl rfl ?_ | refine w_end10 rfl rfl rfl rfl rfl rfl rfl rfl rfl rfl ?_ | refine w_end11 rfl rfl rfl rfl rfl rfl rfl rfl rfl rfl rfl ?_ | refine w_end12 rfl rfl rfl rfl rfl rfl rfl rfl rfl rfl rfl rfl ?_ | refine w_end13 rfl rfl rfl rfl rfl rfl rfl rfl rfl rfl rfl rfl rfl ?_ | refine w_end14 rfl rfl rfl rfl rfl rfl rfl rfl rfl rfl rfl rfl rfl rfl ?_ | refine w_end15 rfl rfl rfl rfl rfl rfl rfl rfl rfl rfl rfl rfl rfl rfl rfl ?_ | refine w_end16 rfl rfl rfl rfl rfl rfl rfl rfl rfl rfl rfl rfl rfl rfl rfl rfl ?_)
    | ((refine i_cons ?_); first
      | refine k_skip rfl ?_
      | refine k_want rfl ?_
      | refine k_mv rfl ?_
      | refine k_pickT rfl rfl ?_
      | refine k_pickF rfl rfl ?_
      | refine k_notT rfl ?_
      | refine k_notF rfl ?_
      | refine k_add rfl rfl (by omega) ?_
      | refine k_sub rfl rfl (by omega) ?_
      | refine k_mul rfl rfl (by omega) ?_
      | refine k_neg rfl (by omega) ?_
      | refine k_quo rfl rfl (by omega) ?_
      | refine k_rem rfl rfl (by omega) ?_
      | refine k_conv rfl (by omega) ?_
      | refine k_max rfl rfl ?_
      | refine k_min rfl rfl ?_
      | refine k_lssT rfl rfl (by omega) ?_
      | refine k_lssF rfl rfl (by omega) ?_
      | refine k_lss rfl rfl (fun hc => ?_) (fun hc => ?_)
      | refine k_leqT rfl rfl (by omega) ?_
      | refine k_leqF rfl rfl (by omega) ?_
      | refine k_leq rfl rfl (fun hc => ?_) (fun hc => ?_)
      | refine k_gtrT rfl rfl (by omega) ?_
      | refine k_gtrF rfl rfl (by omega) ?_
      | refine k_gtr rfl rfl (fun hc => ?_) (fun hc => ?_)
      | refine k_geqT rfl rfl (by omega) ?_
      | refine k_geqF rfl rfl (by omega) ?_
      | refine k_geq rfl rfl (fun hc => ?_) (fun hc => ?_)
      | refine k_eqlT rfl rfl (by omega) ?_
      | refine k_eqlF rfl rfl (by omega) ?_
      | refine k_eql rfl rfl (fun hc => ?_) (fun hc => ?_)
      | refine k_neqT rfl rfl (by omega) ?_
      | refine k_neqF rfl rfl (by omega) ?_
      | refine k_neq rfl rfl (fun hc => ?_) (fun hc => ?_)
      | refine k_len rfl rfl ?_
      | refine k_ok rfl rfl ?_))
  exact ⟨.inr rfl, rfl, rfl⟩

/-! ### How many crossings a column has -/
def cntC (l : List (Nat × Nat)) (i : Nat) : Nat := l.countP fun p => p.1 == i
def cntL (n : Nat) (l : List (Nat × Nat)) : List Int := (List.range n).map fun i : Nat => (cntC l i : Int)
theorem cntL_len (n : Nat) (l : List (Nat × Nat)) : (cntL n l).length = n := by simp [cntL]
theorem cntL_get {n i : Nat} {l : List (Nat × Nat)} (h : i < n) : (cntL n l)[i]? = some (cntC l i : Int) := by simp [cntL, h]
theorem cntL_snoc {n i j : Nat} {l : List (Nat × Nat)} (h : i < n) : cntL n (l ++ [(i, j)]) = (cntL n l).set i (cntC l i + 1) := by
  apply List.ext_getElem?
  intro k
  by_cases hk : k < n
  · rw [cntL_get hk, List.getElem?_set, cntL_len]
    split
    · rename_i e
      subst e
      simp [cntC]
    · rename_i e
      rw [cntL_get hk]
      simp [cntC, e]
  · rw [List.getElem?_eq_none (by rw [cntL_len]; omega), List.getElem?_eq_none (by rw [List.length_set, cntL_len]; omega)]
theorem ints_set (xs : List Int) (i : Nat) (v : Int) : ints (xs.set i v) = (ints xs).set i (.int .i64 v) := by simp only [ints, List.map_set]
theorem cntC_bound {n : Nat} {g : Gr} (h : Vd n g) {i : Nat} (hi : i < n) (hd : atN g.1 i ≠ atN g.2 i) : (cntC (crs g) i : Int) ≤ max (atN g.1 i) (atN g.2 i) - min (atN g.1 i) (atN g.2 i) - 1 := by
  have i1 := h.in1 hi
  have i2 := h.in2 hi
  unfold In01 at i1 i2
  have hnd : (((crs g).filter fun p => p.1 == i).map fun p => p.2).Nodup := by
    unfold List.Nodup
    rw [List.pairwise_map]
    refine List.Pairwise.imp_of_mem (R := fun a b => a ≠ b) ?_ (List.Nodup.sublist List.filter_sublist (crs_nodup g))
    intro a b ha hb hab he
    simp only [List.mem_filter, beq_iff_eq] at ha hb
    exact hab (Prod.ext (ha.2.trans hb.2.symm) he)
  have hf := fit_len (T := (List.range (max (atN g.1 i) (atN g.2 i) - min (atN g.1 i) (atN g.2 i) - 1).toNat).map fun k => (min (atN g.1 i) (atN g.2 i) + 1).toNat + k) hnd (fun y hy => by
    simp only [List.mem_map, List.mem_filter, beq_iff_eq] at hy
    obtain ⟨p, ⟨hp, e⟩, rfl⟩ := hy
    obtain ⟨a1, a2, a3⟩ := crs_mem.1 hp
    rw [e] at a3
    obtain ⟨c1, c2, _⟩ := a3
    simp only [List.mem_map, List.mem_range]
    exact ⟨p.2 - (min (atN g.1 i) (atN g.2 i) + 1).toNat, by omega, by omega⟩)
  rw [List.length_map, List.length_map, List.length_range, ← List.countP_eq_length_filter] at hf
  show ((crs g).countP (fun p => p.1 == i) : Int) ≤ _
  omega

/-- The pair at place k. -/
theorem prs_at {l : List (Nat × Nat)} {k : Nat} {p : Nat × Nat} (h : l[k]? = some p) : cut (prs l) (0 + k * 2) 2 = some [.int .i64 (p.1 : Int), .int .i64 (p.2 : Int)] := by
  induction l generalizing k with
  | nil => simp at h
  | cons a l ih =>
    cases k with
    | zero =>
      simp at h
      subst h
      simp [prs, cut]
    | succ k =>
      have := ih (k := k) (by simpa using h)
      unfold cut at this ⊢
      have e : prs (a :: l) = .int .i64 (a.1 : Int) :: .int .i64 (a.2 : Int) :: prs l := by simp [prs]
      rw [e]
      split at this
      · rename_i hl
        rw [if_pos (by simp only [List.length_cons]; omega)]
        rw [show 0 + (k + 1) * 2 = (0 + k * 2) + 1 + 1 by omega, List.drop_succ_cons, List.drop_succ_cons]
        exact this
      · cases this
theorem prs_len (l : List (Nat × Nat)) : (prs l).length = l.length * 2 := by
  induction l with
  | nil => rfl
  | cons a l ih => simp [prs] at ih ⊢; omega

/-! ### GridCrosses: its loops -/
structure C4 (B : Heap) (X O : SV) (p q n : Nat) (g : Gr) (tm tc : SV) (l : List (Nat × Nat)) (a b : Int) (h : Heap) : Prop where
  ext : Ext B h
  last : Cel h q (.int .i64 a) (.int .i64 b)
  many : Own B h tm (ints (cntL n l))
  crss : Own2 B h tc (crs g).length (prs (crs g))
def I4 (B : Heap) (X O : SV) (p q n : Nat) (g : Gr) (tm tc : SV) (E : Env) (h : Heap) : Prop := ∃ (k : Nat) (a b : Int), k ≤ (crs g).length ∧ C4 B X O p q n g tm tc ((crs g).take k) a b h ∧
  (∀ r, (crs g)[k]? = some r → a < r.1 ∨ a = r.1 ∧ b < r.2) ∧
  E = [(1, some (.sc (.ptr p 0))), (3, some (.sc (.ptr q 0))), (4, some (.sc tm)), (30, some (.sc tc)), (31, some (.sc (.int .i64 (crs g).length))), (32, some (.sc (.int .i64 k)))]
def R4 (B : Heap) (p n : Nat) (g : Gr) (tm : SV) (ex : Ex) (E : Env) (h : Heap) : Prop := ex = .ex 0 ∧ Ext B h ∧ Own B h tm (ints (cntL n (crs g))) ∧ ∃ a b c d,
  E = [(1, some (.sc (.ptr p 0))), (3, a), (4, some (.sc tm)), (30, b), (31, c), (32, d), (33, some (.sc (.bool false)))]
set_option maxHeartbeats 8000000 in
theorem round4 (B : Heap) (X O : SV) (p q n : Nat) (g : Gr) (tm tc : SV) (hp : Cel B p X O) (hg : IsG B X O g) (hV : Vg n g) (hq : B.length ≤ q) (E : Env) (h : Heap) (hI : I4 B X O p q n g tm tc E h) :
    wA FT HK1 b4L0 (E.keep [1, 3, 4, 30, 31, 32]) h (wRound (I4 B X O p q n g tm tc) (cnt (crs g).length 32) (cnt (crs g).length 32 E h) (R4 B p n g tm)) := by
  obtain ⟨k, a, b, hk, ⟨he, hla, hma, hcr⟩, hord, rfl⟩ := hI
  have n40 := hV.few
  have e1 := hV.vd.p1.len
  have e2 := hV.vd.p2.len
  have hclen := crF_len g g.1.length
  have hcf : crF g g.1.length = crs g := rfl
  rw [hcf, e1] at hclen
  have hnn : n * n ≤ 40 * 40 := Nat.mul_le_mul n40 n40
  by_cases hlt : k < (crs g).length
  · obtain ⟨c, hck⟩ : ∃ c, (crs g)[k]? = some c := ⟨_, List.getElem?_eq_getElem hlt⟩
    obtain ⟨i, j⟩ := c
    have hord := hord _ hck
    obtain ⟨hi, hj, hC⟩ := crs_mem.1 (List.mem_of_getElem? hck)
    simp only at hi hj hC hord
    rw [e1] at hi hj
    obtain ⟨c1, c2, c3, c4⟩ := hC
    have i1 := hV.vd.in1 hi
    have i2 := hV.vd.in2 hi
    unfold In01 at i1 i2
    obtain ⟨idc, rfl, hcl, hcb, hcn, hc0⟩ : ∃ id, tc = .slc id 0 (crs g).length none ∧ B.length ≤ id ∧ h[id]? = some (.cells (prs (crs g)) true 2) ∧ (prs (crs g)).length = (crs g).length * 2 ∧ 0 < (crs g).length := by
      rcases hcr with ⟨_, e, _⟩ | h
      · omega
      · exact h
    have hrc : readN h idc (0 + k * 2) 2 = some [.int .i64 (i : Int), .int .i64 (j : Int)] := by
      unfold readN; rw [hcb]; exact prs_at hck
    have hgh := hg.ext he
    have bp := hp.ext he
    obtain ⟨iX, oX, kX, rfl, hrX⟩ := IsInts.at hgh.x (atN_get (xs := g.1) (k := i) (by omega))
    obtain ⟨iO, oO, kO, rfl, hrO⟩ := IsInts.at hgh.o (atN_get (xs := g.2) (k := i) (by omega))
    have hlx : lenS false (.slc iX oX g.1.length kX) = some (n : Int) := by rw [← e1]; rfl
    have hct := cntL_get (n := n) (i := i) (l := (crs g).take k) hi
    have hcb2 : cntC ((crs g).take k) i ≤ k := by
      have := List.countP_le_length (p := fun p : Nat × Nat => p.1 == i) (l := (crs g).take k)
      simp at this
      unfold cntC; omega
    have hmi : (ints (cntL n ((crs g).take k)))[i]? = some (.int .i64 (cntC ((crs g).take k) i : Int)) := by rw [List.getElem?_map, hct]; rfl
    have hmn : (ints (cntL n ((crs g).take k))).length = n := by rw [List.length_map, cntL_len]
    obtain ⟨idm, capm, rfl, hrm⟩ := Own.rd hma hmi
    repeat' (first
      | refine w_seq ?_
      | refine w_seqN ?_
      | refine w_seqX ?_
      | refine w_seqR ?_
      | refine w_blk ?_
      | refine w_blkN ?_
      | refine w_blkX ?_
      | refine w_blkR ?_
      | refine w_skip ?_
      | refine w_ret ?_
      | refine w_exit ?_
      | refine w_ops ?_
      | refine w_opsD ?_
      | refine d_one ?_
      | refine d_nil ?_
      | ((refine i_cond ?_); first | refine w_condT rfl ?_ | refine w_condF rfl ?_)
      | ((refine i_nil ?_); first | refine d_same ?_ | refine d_ord ?_ | refine d_ext ⟨_, rfl⟩ ?_ | refine d_ext (extA _ _ _) ?_ | refine d_ext (by assumption) ?_ | refine w_end0 ?_ | refine w_end1 rfl ?_ | refine w_end2 rfl rfl ?_ | refine w_end3 rfl rfl rfl ?_ | refine w_end4 rfl rfl rfl rfl ?_ | refine w_end5 rfl rfl rfl rfl rfl ?_ | refine w_end6 rfl rfl rfl rfl rfl rfl ?_ | refine w_end7 rfl rfl rfl rfl rfl rfl rfl ?_ | refine w_end8 rfl rfl rfl rfl rfl rfl rfl rfl ?_ | refine w_end9 rfl rfl rfl rfl rfl rfl rfl rfl rfl ?_ | refine w_end10 rfl rfl rfl rfl rfl rfl rfl rfl rfl rfl ?_ | refine w_end11 rfl rfl rfl rfl rfl rfl rfl rfl rfl rfl rfl ?_ | refine w_end12 rfl rfl rfl rfl rfl rfl rfl rfl rfl rfl rfl rfl ?_ | refine w_end13 rfl rfl rfl rfl rfl rfl rfl rfl rfl rfl rfl rfl rfl ?_ | refine w_end14 rfl rfl rfl rfl rfl rfl rfl rfl rfl rfl rfl rfl rfl rfl ?_ | refine w_end15 rfl rfl rfl rfl rfl rfl rfl rfl rfl rfl rfl rfl rfl rfl rfl ?_ | refine w_end16 rfl rfl rfl rfl rfl rfl rfl rfl rfl rfl rfl rfl rfl rfl rfl rfl ?_)
      | ((refine i_cons ?_); first
        | refine k_idxA rfl rfl (by omega) ?_
        | refine op_ldA rfl rfl hrc ?_
        | (refine k_newst rfl ?_; intro h1 x1 c6)
        | refine k_ldb rfl c6.at rfl ?_
        | refine k_ldb rfl (hla.ext x1).at rfl ?_
        | refine k_ldb rfl (bp.ext x1).at rfl ?_
        | refine k_len rfl hlx ?_
        | (refine k_call rfl (call20 (HK := HK1) rfl _ _ n j g.1 (hgh.ext x1).x hV.vd.p1 hj (by omega)) ?_; rintro v hh ⟨rfl, rfl⟩)
        | (refine k_call rfl (call20 (HK := HK1) rfl _ _ n j g.2 (hgh.ext x1).o hV.vd.p2 hj (by omega)) ?_; rintro v hh ⟨rfl, rfl⟩)
        | (obtain ⟨_, _, _, e, hr⟩ := IsInts.at (hgh.ext x1).x (atN_get (xs := g.1) (k := i) (by omega)); cases e; refine k_ld rfl hr ?_)
        | (obtain ⟨_, _, _, e, hr⟩ := IsInts.at (hgh.ext x1).o (atN_get (xs := g.2) (k := i) (by omega)); cases e; refine k_ld rfl hr ?_)
        | refine k_skip rfl ?_
        | refine k_want rfl ?_
        | refine k_mv rfl ?_
        | refine k_pickT rfl rfl ?_
        | refine k_pickF rfl rfl ?_
        | refine k_notT rfl ?_
        | refine k_notF rfl ?_
        | refine k_add rfl rfl (by omega) ?_
        | refine k_sub rfl rfl (by omega) ?_
        | refine k_mul rfl rfl (by omega) ?_
        | refine k_neg rfl (by omega) ?_
        | refine k_quo rfl rfl (by omega) ?_
        | refine k_rem rfl rfl (by omega) ?_
        | refine k_conv rfl (by omega) ?_
        | refine k_max rfl rfl ?_
        | refine k_min rfl rfl ?_
        | refine k_lssT rfl rfl (by omega) ?_
        | refine k_lssF rfl rfl (by omega) ?_
        | refine k_lss rfl rfl (fun hc => ?_) (fun hc => ?_)
        | refine k_leqT rfl rfl (by omega) ?_
        | refine k_leqF rfl rfl (by omega) ?_
        | refine k_leq rfl rfl (fun hc => ?_) (fun hc => ?_)
        | refine k_gtrT rfl rfl (by omega) ?_
        | refine k_gtrF rfl rfl (by omega) ?_
        | refine k_gtr rfl rfl (fun hc => ?_) (fun hc => ?_)
        | refine k_geqT rfl rfl (by omega) ?_
        | refine k_geqF rfl rfl (by omega) ?_
        | refine k_geq rfl rfl (fun hc => ?_) (fun hc => ?_)
        | refine k_eqlT rfl rfl (by omega) ?_
        | refine k_eqlF rfl rfl (by omega) ?_
        | refine k_eql rfl rfl (fun hc => ?_) (fun hc => ?_)
        | refine k_neqT rfl rfl (by omega) ?_
        | refine k_neqF rfl rfl (by omega) ?_
        | refine k_neq rfl rfl (fun hc => ?_) (fun hc => ?_)
        | refine k_len rfl rfl ?_
        | refine k_ok rfl rfl ?_))
    all_goals
      have hma1 := Own.ext hma x1
      obtain ⟨_, _, em, hrm1⟩ := Own.rd hma1 hmi
      cases em
      obtain ⟨idw, capw, h2, ew, hw2, how, hew, hfw, hlw⟩ := Own.wr (he.trans x1) hma1 (i := i) (by rw [hmn]; exact hi) (.int .i64 ((cntC ((crs g).take k) i : Int) + 1))
      cases ew
      have hla1 := hla.ext x1
      have hla2 : Cel h2 q (.int .i64 a) (.int .i64 b) := (hfw _ _ hla1 (Own.notAt hma1 hla1 (by decide))).1
      have c62 : Cel h2 h.length (.int .i64 i) (.int .i64 j) := (hfw _ _ c6 (Own.notAt hma1 c6 (by decide))).1
      have hcb1 := x1.get _ _ hcb
      have hcb2' : h2[idc]? = some (.cells (prs (crs g)) true 2) := (hfw _ _ hcb1 (Own.notAt hma1 hcb1 (by decide))).1
      have hcr2 : Own2 B h2 (.slc idc 0 (crs g).length none) (crs g).length (prs (crs g)) := .inr ⟨idc, rfl, hcl, hcb2', hcn, hc0⟩
      repeat' (first
        | refine w_seq ?_
        | refine w_seqN ?_
        | refine w_seqX ?_
        | refine w_seqR ?_
        | refine w_blk ?_
        | refine w_blkN ?_
        | refine w_blkX ?_
        | refine w_blkR ?_
        | refine w_skip ?_
        | refine w_ret ?_
        | refine w_exit ?_
        | refine w_ops ?_
        | refine w_opsD ?_
        | refine d_one ?_
        | refine d_nil ?_
        | ((refine i_cond ?_); first | refine w_condT rfl ?_ | refine w_condF rfl ?_)
        | ((refine i_nil ?_); first | refine d_same ?_ | refine d_ord ?_ | refine d_ext ⟨_, rfl⟩ ?_ | refine d_ext (extA _ _ _) ?_ | refine d_ext (by assumption) ?_ | refine w_end0 ?_ | refine w_end1 rfl ?_ | refine w_end2 rfl rfl ?_ | refine w_end3 rfl rfl rfl ?_ | refine w_end4 rfl rfl rfl rfl ?_ | refine w_end5 rfl rfl rfl rfl rfl ?_ | refine w_end6 rfl rfl rfl rfl rfl rfl ?_ | refine w_end7 rfl rfl rfl rfl rfl rfl rfl ?_ | refine w_end8 rfl rfl rfl rfl rfl rfl rfl rfl ?_ | refine w_end9 rfl rfl rfl rfl rfl rfl rfl rfl rfl ?_ | refine w_end10 rfl rfl rfl rfl rfl rfl rfl rfl rfl rfl ?_ | refine w_end11 rfl rfl rfl rfl rfl rfl rfl rfl rfl rfl rfl ?_ | refine w_end12 rfl rfl rfl rfl rfl rfl rfl rfl rfl rfl rfl rfl ?_ | refine w_end13 rfl rfl rfl rfl rfl rfl rfl rfl rfl rfl rfl rfl rfl ?_ | refine w_end14 rfl rfl rfl rfl rfl rfl rfl rfl rfl rfl rfl rfl rfl rfl ?_ | refine w_end15 rfl rfl rfl rfl rfl rfl rfl rfl rfl rfl rfl rfl rfl rfl rfl ?_ | refine w_end16 rfl rfl rfl rfl rfl rfl rfl rfl rfl rfl rfl rfl rfl rfl rfl rfl ?_)
        | ((refine i_cons ?_); first
          | refine k_ld rfl hrm1 ?_
          | refine k_ldb rfl c6.at rfl ?_
          | refine k_idxA rfl rfl (by omega) ?_
          | refine k_st rfl rfl hw2 ?_
          | refine k_ldC rfl c62 ?_
          | (refine k_stC rfl rfl hla2 ?_; intro h3 w3)
          | refine k_skip rfl ?_
          | refine k_want rfl ?_
          | refine k_mv rfl ?_
          | refine k_pickT rfl rfl ?_
          | refine k_pickF rfl rfl ?_
          | refine k_notT rfl ?_
          | refine k_notF rfl ?_
          | refine k_add rfl rfl (by omega) ?_
          | refine k_sub rfl rfl (by omega) ?_
          | refine k_mul rfl rfl (by omega) ?_
          | refine k_neg rfl (by omega) ?_
          | refine k_quo rfl rfl (by omega) ?_
          | refine k_rem rfl rfl (by omega) ?_
          | refine k_conv rfl (by omega) ?_
          | refine k_max rfl rfl ?_
          | refine k_min rfl rfl ?_
          | refine k_lssT rfl rfl (by omega) ?_
          | refine k_lssF rfl rfl (by omega) ?_
          | refine k_lss rfl rfl (fun hc => ?_) (fun hc => ?_)
          | refine k_leqT rfl rfl (by omega) ?_
          | refine k_leqF rfl rfl (by omega) ?_
          | refine k_leq rfl rfl (fun hc => ?_) (fun hc => ?_)
          | refine k_gtrT rfl rfl (by omega) ?_
          | refine k_gtrF rfl rfl (by omega) ?_
          | refine k_gtr rfl rfl (fun hc => ?_) (fun hc => ?_)
          | refine k_geqT rfl rfl (by omega) ?_
          | refine k_geqF rfl rfl (by omega) ?_
          | refine k_geq rfl rfl (fun hc => ?_) (fun hc => ?_)
          | refine k_eqlT rfl rfl (by omega) ?_
          | refine k_eqlF rfl rfl (by omega) ?_
          | refine k_eql rfl rfl (fun hc => ?_) (fun hc => ?_)
          | refine k_neqT rfl rfl (by omega) ?_
          | refine k_neqF rfl rfl (by omega) ?_
          | refine k_neq rfl rfl (fun hc => ?_) (fun hc => ?_)
          | refine k_len rfl rfl ?_
          | refine k_ok rfl rfl ?_))
      have htk : (crs g).take (k + 1) = (crs g).take k ++ [(i, j)] := by rw [List.take_add_one, hck]; rfl
      refine w_roundN ⟨k + 1, i, j, by omega, ⟨w3.ext hew hq, w3.cel, ?_, w3.own2 hcr2⟩, fun r hr => ?_, rfl⟩ (by simp [cnt, Env.get]; omega)
      · rw [htk, cntL_snoc hi, ints_set]
        exact w3.own how
      · obtain ⟨a1, a2⟩ := List.getElem?_eq_some_iff.1 hck
        obtain ⟨b1, b2⟩ := List.getElem?_eq_some_iff.1 hr
        have hs := List.pairwise_iff_getElem.1 (crs_sorted g) k (k + 1) a1 b1 (by omega)
        rw [a2, b2] at hs
        unfold Lt2 at hs
        simp only at hs
        omega
  · obtain rfl : k = (crs g).length := by omega
    rw [List.take_length] at hma
    repeat' (first
      | refine w_seq ?_
      | refine w_seqN ?_
      | refine w_seqX ?_
      | refine w_seqR ?_
      | refine w_blk ?_
      | refine w_blkN ?_
      | refine w_blkX ?_
      | refine w_blkR ?_
      | refine w_skip ?_
      | refine w_ret ?_
      | refine w_exit ?_
      | refine w_ops ?_
      | refine w_opsD ?_
      | refine d_one ?_
      | refine d_nil ?_
      | ((refine i_cond ?_); first | refine w_condT rfl ?_ | refine w_condF rfl ?_)
      | ((refine i_nil ?_); first | refine d_same ?_ | refine d_ord ?_ | refine d_ext ⟨_, rfl⟩ ?_ | refine d_ext (extA _ _ _) ?_ | refine d_ext (by assumption) ?_ | refine w_end0 ?_ | refine w_end1 rfl ?_ | refine w_end2 rfl rfl ?_ | refine w_end3 rfl rfl rfl ?_ | refine w_end4 rfl rfl rfl rfl ?_ | refine w_end5 rfl rfl rfl rfl rfl ?_ | refine w_end6 rfl rfl rfl rfl rfl rfl ?_ | refine w_end7 rfl rfl rfl rfl rfl rfl rfl ?_ | refine w_end8 rfl rfl rfl rfl rfl rfl rfl rfl ?_ | refine w_end9 rfl rfl rfl rfl rfl rfl rfl rfl rfl ?_ | refine w_end10 rfl rfl rfl rfl rfl rfl rfl rfl rfl rfl ?_ | refine w_end11 rfl rfl rfl rfl rfl rfl rfl rfl rfl rfl rfl ?_ | refine w_end12 rfl rfl rfl rfl rfl rfl rfl rfl rfl rfl rfl rfl ?_ | refine w_end13 rfl rfl rfl rfl rfl rfl rfl rfl rfl rfl rfl rfl rfl ?_ | refine w_end14 rfl rfl rfl rfl rfl rfl rfl rfl rfl rfl rfl rfl rfl rfl ?_ | refine w_end15 rfl rfl rfl rfl rfl rfl rfl rfl rfl rfl rfl rfl rfl rfl rfl ?_ | refine w_end16 rfl rfl rfl rfl rfl rfl rfl rfl rfl rfl rfl rfl rfl rfl rfl rfl ?_)
      | ((refine i_cons ?_); first
        | refine k_skip rfl ?_
        | refine k_want rfl ?_
        | refine k_mv rfl ?_
        | refine k_pickT rfl rfl ?_
        | refine k_pickF rfl rfl ?_
        | refine k_notT rfl ?_
        | refine k_notF rfl ?_
        | refine k_add rfl rfl (by omega) ?_
        | refine k_sub rfl rfl (by omega) ?_
        | refine k_mul rfl rfl (by omega) ?_
        | refine k_neg rfl (by omega) ?_
        | refine k_quo rfl rfl (by omega) ?_
        | refine k_rem rfl rfl (by omega) ?_
        | refine k_conv rfl (by omega) ?_
        | refine k_max rfl rfl ?_
        | refine k_min rfl rfl ?_
        | refine k_lssT rfl rfl (by omega) ?_
        | refine k_lssF rfl rfl (by omega) ?_
        | refine k_lss rfl rfl (fun hc => ?_) (fun hc => ?_)
        | refine k_leqT rfl rfl (by omega) ?_
        | refine k_leqF rfl rfl (by omega) ?_
        | refine k_leq rfl rfl (fun hc => ?_) (fun hc => ?_)
        | refine k_gtrT rfl rfl (by omega) ?_
        | refine k_gtrF rfl rfl (by omega) ?_
        | refine k_gtr rfl rfl (fun hc => ?_) (fun hc => ?_)
        | refine k_geqT rfl rfl (by omega) ?_
        | refine k_geqF rfl rfl (by omega) ?_
        | refine k_geq rfl rfl (fun hc => ?_) (fun hc => ?_)
        | refine k_eqlT rfl rfl (by omega) ?_
        | refine k_eqlF rfl rfl (by omega) ?_
        | refine k_eql rfl rfl (fun hc => ?_) (fun hc => ?_)
        | refine k_neqT rfl rfl (by omega) ?_
        | refine k_neqF rfl rfl (by omega) ?_
        | refine k_neq rfl rfl (fun hc => ?_) (fun hc => ?_)
        | refine k_len rfl rfl ?_
        | refine k_ok rfl rfl ?_))
    exact w_roundX ⟨rfl, he, hma, _, _, _, _, rfl⟩
end Go.Proofs.YtadelcikpkhclaaDoor
