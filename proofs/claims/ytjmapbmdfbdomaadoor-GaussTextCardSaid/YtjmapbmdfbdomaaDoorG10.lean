/- The law GaussFixed, reckoned. -/
import Derived.Test.YtjmapbmdfbdomaaDoorG9
import Derived.Test.YtjmapbmdfbdomaaDoorT5
namespace Go.Proofs.YtjmapbmdfbdomaaDoor
open Go.Ab
set_option linter.unusedVariables false
set_option linter.unusedSimpArgs false
set_option maxRecDepth 20000
attribute [local irreducible] wOps wA wSeq wBlk wRound wOpsD

section
variable {FT : FuncId → Option AFun} {HK : FuncId → Option Hook} {E : Env} {h : Heap} {K : Env → Heap → Prop} {d : Option Nat} {r : List AOp} {x y : AO}
theorem k_st3e {hx : Heap} {q : Nat} {a b c u v w : SV} {p : AO} (ha : evS E p = some (.ptr q 0)) (hv : ev E x = some (.agg [a, b, c])) (hc : Cel3 h q u v w) (he : Ext hx h) (hq : hx.length ≤ q)
    (hw : ∀ h1, Ext hx h1 → Cel3 h1 q a b c → wOps FT HK r (bindE d none E) h1 K) : wOps FT HK (⟨d, .st 3 p x, none⟩ :: r) E h K :=
  k_st3 ha hv hc fun h1 e c1 => hw h1 (by rw [e]; exact he.set hq _) c1
end
def I28 (h0 : Heap) (s t : SV) (xs ys : List Int) (E : Env) (h : Heap) : Prop := ∃ i : Nat, i ≤ xs.length ∧ h = h0 ∧ xs.take i = ys.take i ∧
  E = [(0, some (.sc s)), (1, some (.sc t)), (5, some (.sc (.int .i64 i)))]
def R28 (h0 : Heap) (xs ys : List Int) (ex : Ex) (E : Env) (h : Heap) : Prop := h = h0 ∧ match ex with
  | .rt => E = [(4, some (.sc (.bool false)))] ∧ xs ≠ ys
  | .ex i => i = 0 ∧ xs = ys ∧ ∃ a b c d, E = [(0, a), (1, b), (5, c), (14, d)]
  | .nm => False
theorem round28 (h0 : Heap) (s t : SV) (xs ys : List Int) (hs : IsInts h0 s xs) (ht : IsInts h0 t ys) (hl : xs.length = ys.length) (hb : xs.length ≤ 1000000) (E : Env) (h : Heap) (hI : I28 h0 s t xs ys E h) :
    wA FT HKt b28L0 (E.keep [0, 1, 5]) h (wRound (I28 h0 s t xs ys) (cnt xs.length 5) (cnt xs.length 5 E h) (R28 h0 xs ys)) := by
  obtain ⟨i, hi, rfl, he, rfl⟩ := hI
  have hln := IsSl.len hs
  by_cases hlt : i < xs.length
  · obtain ⟨x, hx⟩ : ∃ x, xs[i]? = some x := ⟨_, List.getElem?_eq_getElem hlt⟩
    obtain ⟨y, hy⟩ : ∃ y, ys[i]? = some y := ⟨_, List.getElem?_eq_getElem (by omega)⟩
    obtain ⟨id, off, cap, rfl, hrd⟩ := IsInts.at hs hx
    obtain ⟨id2, off2, cap2, rfl, hrd2⟩ := IsInts.at ht hy
    by_cases hxy : x = y
    · subst hxy
      have e1 : xs.take (i + 1) = ys.take (i + 1) := by rw [take_snoc hx, take_snoc hy, he]
      repeat' (first | refine w_seq ?_ | refine w_seqN ?_ | refine w_blk ?_ | refine w_blkN ?_ | refine w_skip ?_ | refine w_ops ?_ | refine w_opsD ?_ | refine d_one ?_ | refine d_nil ?_ | ((refine i_cond ?_); first | refine w_condT rfl ?_ | refine w_condF rfl ?_) | ((refine i_nil ?_); first | refine d_same ?_ | refine w_end3 rfl rfl rfl ?_ | refine w_end4 rfl rfl rfl rfl ?_) | ((refine i_cons ?_); first | refine k_len rfl hln ?_ | refine k_idxA rfl rfl (by omega) ?_ | refine k_ld rfl hrd ?_ | refine k_ld rfl hrd2 ?_ | refine k_mv rfl ?_ | refine k_add rfl rfl (by omega) ?_ | refine k_lssT rfl rfl (by omega) ?_ | refine k_neqF rfl rfl (by omega) ?_))
      exact w_roundN ⟨i + 1, by omega, rfl, e1, rfl⟩ (by simp [cnt, Env.get]; omega)
    · have hne : xs ≠ ys := fun e => by subst e; rw [hx] at hy; cases hy; exact hxy rfl
      repeat' (first | refine w_seq ?_ | refine w_seqN ?_ | refine w_seqR ?_ | refine w_blk ?_ | refine w_blkR ?_ | refine w_skip ?_ | refine w_ret ?_ | refine w_ops ?_ | refine w_opsD ?_ | refine d_one ?_ | refine d_nil ?_ | ((refine i_cond ?_); refine w_condT rfl ?_) | ((refine i_nil ?_); first | refine d_same ?_ | refine w_end1 rfl ?_ | refine w_end4 rfl rfl rfl rfl ?_) | ((refine i_cons ?_); first | refine k_len rfl hln ?_ | refine k_idxA rfl rfl (by omega) ?_ | refine k_ld rfl hrd ?_ | refine k_ld rfl hrd2 ?_ | refine k_mv rfl ?_ | refine k_lssT rfl rfl (by omega) ?_ | refine k_neqT rfl rfl (by omega) ?_))
      exact w_roundR ⟨rfl, rfl, hne⟩
  · rw [List.take_of_length_le (by omega), List.take_of_length_le (by omega)] at he
    repeat' (first | refine w_seq ?_ | refine w_seqN ?_ | refine w_seqX ?_ | refine w_exit ?_ | refine w_ops ?_ | ((refine i_cond ?_); refine w_condF rfl ?_) | ((refine i_nil ?_); refine w_end4 rfl rfl rfl rfl ?_) | ((refine i_cons ?_); first | refine k_len rfl hln ?_ | refine k_mv rfl ?_ | refine k_lssF rfl rfl (by omega) ?_))
    exact w_roundX ⟨rfl, rfl, he, _, _, _, _, rfl⟩
theorem call28 (h0 : Heap) (s t : SV) (xs ys : List Int) (hs : IsInts h0 s xs) (ht : IsInts h0 t ys) (hb : xs.length ≤ 1000000) (hb2 : ys.length ≤ 1000000) :
    ∃ v h', Cal FT HKt 28 [.sc s, .sc t] h0 v h' ∧ h' = h0 ∧ v = .sc (.bool (decide (xs = ys))) := by
  refine Cal.of (F := a28) rfl rfl rfl ?_
  have hln := IsSl.len hs
  have hlt := IsSl.len ht
  by_cases hl : xs.length = ys.length
  · repeat' (first | refine w_seq ?_ | refine w_seqN ?_ | refine w_blk ?_ | refine w_skip ?_ | refine w_ops ?_ | ((refine i_cond ?_); refine w_condF rfl ?_) | ((refine i_nil ?_); first | refine w_end2 rfl rfl ?_ | refine w_end3 rfl rfl rfl ?_) | ((refine i_cons ?_); first | refine k_len rfl hln ?_ | refine k_len rfl hlt ?_ | refine k_mv rfl ?_ | refine k_neqF rfl rfl (by omega) ?_))
    refine w_loop (I28 h0 s t xs ys) (cnt xs.length 5) (R28 h0 xs ys) ⟨0, Nat.zero_le _, rfl, rfl, rfl⟩ (round28 h0 s t xs ys hs ht hl hb) ?_
    rintro ex E' h' ⟨rfl, hR⟩
    cases ex with
    | nm => exact hR.elim
    | ex i =>
      obtain ⟨rfl, he, a, b, c, d, rfl⟩ := hR
      rw [decide_eq_true he]
      repeat' (first | refine w_seq ?_ | refine w_seqN ?_ | refine w_blkX ?_ | refine w_ret ?_ | refine w_ops ?_ | ((refine i_nil ?_); refine w_end1 rfl ?_) | ((refine i_cons ?_); refine k_mv rfl ?_))
      exact ⟨.inr rfl, rfl, rfl⟩
    | rt =>
      obtain ⟨rfl, hn⟩ := hR
      rw [decide_eq_false hn]
      repeat' (first | refine w_seqR ?_ | refine w_blkR ?_)
      exact ⟨.inr rfl, rfl, rfl⟩
  · rw [decide_eq_false (fun e : xs = ys => hl (by rw [e]))]
    repeat' (first | refine w_seq ?_ | refine w_seqN ?_ | refine w_seqR ?_ | refine w_ret ?_ | refine w_ops ?_ | ((refine i_cond ?_); refine w_condT rfl ?_) | ((refine i_nil ?_); first | refine w_end1 rfl ?_ | refine w_end2 rfl rfl ?_ | refine w_end3 rfl rfl rfl ?_) | ((refine i_cons ?_); first | refine k_len rfl hln ?_ | refine k_len rfl hlt ?_ | refine k_mv rfl ?_ | refine k_neqT rfl rfl (by omega) ?_))
    exact ⟨.inr rfl, rfl, rfl⟩


/-! ### The empty code -/
def I10z (h0 : Heap) (a b : Nat) (E : Env) (h : Heap) : Prop := h = h0 ∧ E = [(2, some (.sc (.ptr a 0))), (3, some (.sc (.ptr b 0))), (15, some (.sc .nilS)), (16, some (.sc (.int .i64 0))), (17, some (.sc (.int .i64 0)))]
def R10z (h0 : Heap) (a b : Nat) (ex : Ex) (E : Env) (h : Heap) : Prop := ex = .ex 0 ∧ h = h0 ∧ ∃ c d e f, E = [(2, some (.sc (.ptr a 0))), (3, some (.sc (.ptr b 0))), (15, c), (16, d), (17, e), (18, f)]
theorem call10z (h0 : Heap) : ∃ v h', Cal FT HKt 10 [.agg [.nilS, .nilS, .int .i64 0]] h0 v h' ∧ Ext h0 h' ∧ v = .agg [.nilS, .nilS, .int .i64 0] := by
  refine Cal.of (F := a10) rfl rfl rfl ?_
  repeat' (first | refine w_seq ?_ | refine w_seqN ?_ | refine w_blk ?_ | refine w_ops ?_ | ((refine i_nil ?_); first | refine w_end2 rfl rfl ?_ | refine w_end3 rfl rfl rfl ?_ | refine w_end5 rfl rfl rfl rfl rfl ?_) | ((refine i_cons ?_); first | (refine k_box rfl rfl ?_; intro h1 e1 l1 b1) | (have l2' := l2; refine k_new3 ?_; intro h3 e3 l3 c3) | (refine k_new3 ?_; intro h2 e2 l2 c2; have b2 := b1.ext e2) | refine k_bld rfl rfl ?_ | (refine k_st3e rfl rfl c3 e3 (Nat.le_refl _) ?_; intro h4 e4 c4; have b4 := b2.ext e4) | refine k_fldA rfl ?_ | refine k_ldb rfl b4 rfl ?_ | refine k_ldb rfl b2 rfl ?_ | refine k_mv rfl ?_ | refine k_len rfl rfl ?_))
  refine w_loop (I10z h4 h1.length h2.length) (fun _ _ => 0) (R10z h4 h1.length h2.length) ⟨rfl, rfl⟩ ?_ ?_
  · rintro E h ⟨rfl, rfl⟩
    repeat' (first | refine w_seq ?_ | refine w_seqN ?_ | refine w_seqX ?_ | refine w_exit ?_ | refine w_ops ?_ | ((refine i_cond ?_); refine w_condF rfl ?_) | ((refine i_nil ?_); refine w_end6 rfl rfl rfl rfl rfl rfl ?_) | ((refine i_cons ?_); refine k_lssF rfl rfl (by omega) ?_))
    exact w_roundX ⟨rfl, rfl, _, _, _, _, rfl⟩
  rintro ex E' h' ⟨rfl, rfl, c, d, e, f, rfl⟩
  have c2' := c2.ext e4
  repeat' (first | refine w_seq ?_ | refine w_seqN ?_ | refine w_blkX ?_ | refine w_ret ?_ | refine w_ops ?_ | ((refine i_nil ?_); refine w_end1 rfl ?_) | ((refine i_cons ?_); first | refine k_ld3 rfl c4 ?_ | (refine k_st3e rfl rfl c2' (e2.trans e4) (Nat.le_refl _) ?_; intro h5 e5 c5)))
  exact ⟨.inr rfl, oK_cell rfl c5.read ⟨e1.trans e5, rfl⟩⟩
def I13z (h0 : Heap) (a b : Nat) (E : Env) (h : Heap) : Prop := h = h0 ∧ E = [(2, some (.sc (.ptr a 0))), (3, some (.sc (.ptr b 0))), (5, some (.sc (.int .i64 0)))]
def R13z (h0 : Heap) (ex : Ex) (E : Env) (h : Heap) : Prop := ex = .ex 0 ∧ h = h0 ∧ ∃ c d e f, E = [(2, c), (3, d), (5, e), (33, f)]
theorem call13z (h0 : Heap) : ∃ v h', Cal FT HKt 13 [.agg [.nilS, .nilS, .int .i64 0], .agg [.nilS, .nilS, .int .i64 0]] h0 v h' ∧ Ext h0 h' ∧ v = .sc (.bool true) := by
  refine Cal.of (F := a13) rfl rfl rfl ?_
  have k1 := fun h => call28 h .nilS .nilS [] [] (.inl ⟨rfl, rfl, rfl⟩) (.inl ⟨rfl, rfl, rfl⟩) (by simp) (by simp)
  rw [decide_eq_true (rfl : ([] : List Int) = [])] at k1
  repeat' (first | refine w_seq ?_ | refine w_seqN ?_ | refine w_blk ?_ | refine w_skip ?_ | refine w_ops ?_ | ((refine i_cond ?_); refine w_condF rfl ?_) | ((refine i_nil ?_); first | refine w_end2 rfl rfl ?_ | refine w_end3 rfl rfl rfl ?_) | ((refine i_cons ?_); first | (have l1' := l1; refine k_box rfl rfl ?_; intro h2 e2 l2 b2; have b1' := b1.ext e2) | (refine k_box rfl rfl ?_; intro h1 e1 l1 b1) | refine k_fldA rfl ?_ | refine k_ldb rfl b1' rfl ?_ | refine k_ldb rfl b2 rfl ?_ | (refine k_call rfl (k1 _) ?_; rintro v h' ⟨rfl, rfl⟩) | refine k_want rfl ?_ | refine k_mv rfl ?_ | refine k_pickF rfl rfl ?_ | refine k_notT rfl ?_ | refine k_neqF rfl rfl (by omega) ?_ | refine k_len rfl rfl ?_))
  refine w_loop (I13z h' h0.length h1.length) (fun _ _ => 0) (R13z h') ⟨rfl, rfl⟩ ?_ ?_
  · rintro E h ⟨rfl, rfl⟩
    repeat' (first | refine w_seq ?_ | refine w_seqN ?_ | refine w_seqX ?_ | refine w_exit ?_ | refine w_ops ?_ | ((refine i_cond ?_); refine w_condF rfl ?_) | ((refine i_nil ?_); refine w_end4 rfl rfl rfl rfl ?_) | ((refine i_cons ?_); first | refine k_fldA rfl ?_ | refine k_ldb rfl b1' rfl ?_ | refine k_mv rfl ?_ | refine k_lssF rfl rfl (by omega) ?_ | refine k_len rfl rfl ?_))
    exact w_roundX ⟨rfl, rfl, _, _, _, _, rfl⟩
  rintro ex E' h' ⟨rfl, rfl, c, d, e, f, rfl⟩
  repeat' (first | refine w_seq ?_ | refine w_seqN ?_ | refine w_blkX ?_ | refine w_ret ?_ | refine w_ops ?_ | ((refine i_nil ?_); refine w_end1 rfl ?_) | ((refine i_cons ?_); refine k_mv rfl ?_))
  exact ⟨.inr rfl, e1.trans e2, rfl⟩

/-! ### The law -/
end Go.Proofs.YtjmapbmdfbdomaaDoor
