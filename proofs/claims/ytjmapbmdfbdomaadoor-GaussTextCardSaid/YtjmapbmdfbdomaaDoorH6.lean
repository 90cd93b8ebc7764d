/- Same: two equal codes. -/
import Derived.Test.YtjmapbmdfbdomaaDoorG10
namespace Go.Proofs.YtjmapbmdfbdomaaDoor
open Go.Ab
set_option linter.unusedVariables false
set_option linter.unusedSimpArgs false
set_option maxRecDepth 20000
attribute [local irreducible] wOps wA wSeq wBlk wRound wOpsD

section
variable {FT : FuncId → Option AFun} {HK : FuncId → Option Hook} {E : Env} {h : Heap} {K : Env → Heap → Prop} {d : Option Nat} {r : List AOp} {x y : AO}
theorem k_veq {neg u p q : Bool} {k : IntKind} {a b : Int} (hx : ev E x = some (.agg [.int k a, .bool p])) (hy : ev E y = some (.agg [.int k b, .bool q])) (hu : (if neg then !(a == b && p == q) else (a == b && p == q)) = u)
    (hw : wOps FT HK r (bindE d (some (.sc (.bool u))) E) h K) : wOps FT HK (⟨d, .veq neg x y, none⟩ :: r) E h K :=
  op_ok rfl rfl (by simp only [step1, hx, hy, if_true, hu]) hw
end
def I13v (h0 : Heap) (a b i : Nat) (vs : List Vis) (E : Env) (h : Heap) : Prop := ∃ k : Nat, k ≤ vs.length ∧ h = h0 ∧
  E = [(2, some (.sc (.ptr a 0))), (3, some (.sc (.ptr b 0))), (5, some (.sc (.int .i64 (i : Nat)))), (6, some (.sc (.int .i64 (k : Nat))))]
def R13v (h0 : Heap) (a b i : Nat) (ex : Ex) (E : Env) (h : Heap) : Prop := ex = .ex 2 ∧ h = h0 ∧ ∃ c d,
  E = [(2, some (.sc (.ptr a 0))), (3, some (.sc (.ptr b 0))), (5, some (.sc (.int .i64 (i : Nat)))), (6, c), (56, d)]
theorem round13v (h0 : Heap) (a b i : Nat) (X X' Y Y' Z Z' : SV) (C : List (List Vis)) (vs : List Vis) (hi : C[i]? = some vs) (hX : IsComps h0 X C) (hX' : IsComps h0 X' C) (ha : Blk.At h0 a [X, Y, Z]) (hb : Blk.At h0 b [X', Y', Z']) (hl : vs.length ≤ 1000000) (hl2 : C.length ≤ 1000000) (E : Env) (h : Heap) (hJ : I13v h0 a b i vs E h) :
    wA FT HKt b13L1 (E.keep [2, 3, 5, 6]) h (wRound (I13v h0 a b i vs) (cnt vs.length 6) (cnt vs.length 6 E h) (R13v h0 a b i)) := by
  obtain ⟨k, hk, rfl, rfl⟩ := hJ
  have hil : i < C.length := (List.getElem?_eq_some_iff.1 hi).1
  obtain ⟨id1, off1, cap1, t1, rfl, hr1, it1⟩ := hX.at hi
  obtain ⟨id2, off2, cap2, t2, rfl, hr2, it2⟩ := hX'.at hi
  have l1 := it1.len
  by_cases hlt : k < vs.length
  · obtain ⟨v, hx⟩ : ∃ v, vs[k]? = some v := ⟨_, List.getElem?_eq_getElem hlt⟩
    obtain ⟨id3, off3, cap3, rfl, hr3⟩ := it1.at hx
    obtain ⟨id4, off4, cap4, rfl, hr4⟩ := it2.at hx
    have hu : (if true then !(v.1 == v.1 && v.2 == v.2) else (v.1 == v.1 && v.2 == v.2)) = false := by simp
    repeat' (first | refine w_seq ?_ | refine w_seqN ?_ | refine w_blk ?_ | refine w_blkN ?_ | refine w_skip ?_ | refine w_ops ?_ | refine w_opsD ?_ | refine d_one ?_ | refine d_nil ?_ | ((refine i_cond ?_); first | refine w_condT rfl ?_ | refine w_condF rfl ?_) | ((refine i_nil ?_); first | refine d_same ?_ | refine w_end4 rfl rfl rfl rfl ?_ | refine w_end5 rfl rfl rfl rfl rfl ?_) | ((refine i_cons ?_); first | refine k_fldA rfl ?_ | refine k_ldb rfl ha rfl ?_ | refine k_ldb rfl hb rfl ?_ | refine k_idxA (esz := 1) rfl rfl (by omega) ?_ | refine k_idxA (esz := 2) rfl rfl (by omega) ?_ | refine k_ld rfl hr1 ?_ | refine k_ld rfl hr2 ?_ | refine op_ldA rfl rfl hr3 ?_ | refine op_ldA rfl rfl hr4 ?_ | refine k_len rfl l1 ?_ | refine k_veq rfl rfl hu ?_ | refine k_mv rfl ?_ | refine k_add rfl rfl (by omega) ?_ | refine k_lssT rfl rfl (by omega) ?_))
    exact w_roundN ⟨k + 1, by omega, rfl, rfl⟩ (by simp [cnt, Env.get]; omega)
  · repeat' (first | refine w_seq ?_ | refine w_seqN ?_ | refine w_seqX ?_ | refine w_exit ?_ | refine w_ops ?_ | ((refine i_cond ?_); refine w_condF rfl ?_) | ((refine i_nil ?_); refine w_end5 rfl rfl rfl rfl rfl ?_) | ((refine i_cons ?_); first | refine k_fldA rfl ?_ | refine k_ldb rfl ha rfl ?_ | refine k_idxA (esz := 1) rfl rfl (by omega) ?_ | refine k_ld rfl hr1 ?_ | refine k_len rfl l1 ?_ | refine k_mv rfl ?_ | refine k_lssF rfl rfl (by omega) ?_))
    exact w_roundX ⟨rfl, rfl, _, _, rfl⟩
def I13c (h0 : Heap) (a b n : Nat) (E : Env) (h : Heap) : Prop := ∃ i : Nat, i ≤ n ∧ h = h0 ∧
  E = [(2, some (.sc (.ptr a 0))), (3, some (.sc (.ptr b 0))), (5, some (.sc (.int .i64 (i : Nat))))]
def R13c (h0 : Heap) (ex : Ex) (E : Env) (h : Heap) : Prop := ex = .ex 0 ∧ h = h0 ∧ ∃ a b c d, E = [(2, a), (3, b), (5, c), (33, d)]
theorem round13c (h0 : Heap) (a b : Nat) (X X' Y Y' Z Z' : SV) (g : GC) (hf : Fits g) (hX : IsComps h0 X g.C) (hX' : IsComps h0 X' g.C) (ha : Blk.At h0 a [X, Y, Z]) (hb : Blk.At h0 b [X', Y', Z']) (E : Env) (h : Heap) (hJ : I13c h0 a b g.C.length E h) :
    wA FT HKt b13L0 (E.keep [2, 3, 5]) h (wRound (I13c h0 a b g.C.length) (cnt g.C.length 5) (cnt g.C.length 5 E h) (R13c h0)) := by
  obtain ⟨i, hi, rfl, rfl⟩ := hJ
  have lX := hX.len
  have hc := hf.c
  by_cases hlt : i < g.C.length
  · obtain ⟨vs, hx⟩ : ∃ vs, g.C[i]? = some vs := ⟨_, List.getElem?_eq_getElem hlt⟩
    have hvl : vs.length ≤ 1000000 := by
      have h1 := flat_snoc hx
      have h2 := flat_le (C := g.C) (i + 1)
      rw [h1, List.length_append] at h2
      have := hf.v
      omega
    obtain ⟨id1, off1, cap1, t1, rfl, hr1, it1⟩ := hX.at hx
    obtain ⟨id2, off2, cap2, t2, rfl, hr2, it2⟩ := hX'.at hx
    have l1 := it1.len
    have l2 := it2.len
    repeat' (first | refine w_seq ?_ | refine w_seqN ?_ | refine w_blk ?_ | refine w_skip ?_ | refine w_ops ?_ | refine w_opsD ?_ | refine d_one ?_ | refine d_nil ?_ | ((refine i_cond ?_); first | refine w_condT rfl ?_ | refine w_condF rfl ?_) | ((refine i_nil ?_); first | refine d_same ?_ | refine w_end4 rfl rfl rfl rfl ?_) | ((refine i_cons ?_); first | refine k_fldA rfl ?_ | refine k_ldb rfl ha rfl ?_ | refine k_ldb rfl hb rfl ?_ | refine k_idxA (esz := 1) rfl rfl (by omega) ?_ | refine k_ld rfl hr1 ?_ | refine k_ld rfl hr2 ?_ | refine k_len rfl lX ?_ | refine k_len rfl l1 ?_ | refine k_len rfl l2 ?_ | refine k_mv rfl ?_ | refine k_lssT rfl rfl (by omega) ?_ | refine k_neqF rfl rfl (by omega) ?_))
    refine w_loop (I13v h a b i vs) (cnt vs.length 6) (R13v h a b i) ⟨0, Nat.zero_le _, rfl, rfl⟩ (round13v h a b i _ _ Y Y' Z Z' g.C vs hx hX hX' ha hb hvl hc) ?_
    rintro ex E' h' ⟨rfl, rfl, c, d, rfl⟩
    repeat' (first | refine w_seqN ?_ | refine w_blkN ?_ | refine w_blkX ?_ | refine w_ops ?_ | ((refine i_nil ?_); refine w_end3 rfl rfl rfl ?_) | ((refine i_cons ?_); first | refine k_mv rfl ?_ | refine k_add rfl rfl (by omega) ?_))
    exact w_roundN ⟨i + 1, by omega, rfl, rfl⟩ (by simp [cnt, Env.get]; omega)
  · repeat' (first | refine w_seq ?_ | refine w_seqN ?_ | refine w_seqX ?_ | refine w_exit ?_ | refine w_ops ?_ | ((refine i_cond ?_); refine w_condF rfl ?_) | ((refine i_nil ?_); refine w_end4 rfl rfl rfl rfl ?_) | ((refine i_cons ?_); first | refine k_fldA rfl ?_ | refine k_ldb rfl ha rfl ?_ | refine k_len rfl lX ?_ | refine k_mv rfl ?_ | refine k_lssF rfl rfl (by omega) ?_))
    exact w_roundX ⟨rfl, rfl, _, _, _, _, rfl⟩
set_option maxHeartbeats 4000000 in
theorem call13 (h0 : Heap) (X Sg X' Sg' : SV) (g : GC) (hf : Fits g) (hc : IsCode h0 X Sg g) (hc' : IsCode h0 X' Sg' g) : ∃ v h', Cal FT HKt 13 [.agg [X, Sg, .int .i64 g.L], .agg [X', Sg', .int .i64 g.L]] h0 v h' ∧ Ext h0 h' ∧ v = .sc (.bool true) := by
  refine Cal.of (F := a13) rfl rfl rfl ?_
  have hsl := hf.s
  have hcl := hf.c
  have k1 := fun h a b => call28 h Sg Sg' g.S g.S a b hsl hsl
  rw [decide_eq_true (rfl : g.S = g.S)] at k1
  have l1 := hc.x.len
  have l2 := hc'.x.len
  repeat' (first | refine w_seq ?_ | refine w_seqN ?_ | refine w_blk ?_ | refine w_skip ?_ | refine w_ops ?_ | ((refine i_cond ?_); refine w_condF rfl ?_) | ((refine i_nil ?_); first | refine w_end2 rfl rfl ?_ | refine w_end3 rfl rfl rfl ?_) | ((refine i_cons ?_); first | (have b1' := b1; refine k_box rfl rfl ?_; intro h2 e2 m2 b2; have b1x := b1.ext e2; have e3 := e1.trans e2) | (refine k_box rfl rfl ?_; intro h1 e1 m1 b1) | refine k_fldA rfl ?_ | refine k_ldb rfl b1x rfl ?_ | refine k_ldb rfl b2 rfl ?_ | (refine k_call rfl (k1 _ (IsSl.ext hc.s e3) (IsSl.ext hc'.s e3)) ?_; rintro v h' ⟨rfl, rfl⟩) | refine k_len rfl l1 ?_ | refine k_len rfl l2 ?_ | refine k_want rfl ?_ | refine k_mv rfl ?_ | refine k_pickF rfl rfl ?_ | refine k_notT rfl ?_ | refine k_neqF rfl rfl (by omega) ?_))
  refine w_loop (I13c h' _ _ g.C.length) (cnt g.C.length 5) (R13c h') ⟨0, Nat.zero_le _, rfl, rfl⟩ (round13c h' _ _ X X' Sg Sg' _ _ g hf (hc.x.ext e3) (hc'.x.ext e3) b1x b2) ?_
  rintro ex E' h' ⟨rfl, rfl, c, d, e, f, rfl⟩
  repeat' (first | refine w_seq ?_ | refine w_seqN ?_ | refine w_blkX ?_ | refine w_ret ?_ | refine w_ops ?_ | ((refine i_nil ?_); refine w_end1 rfl ?_) | ((refine i_cons ?_); refine k_mv rfl ?_))
  exact ⟨.inr rfl, e3, rfl⟩
end Go.Proofs.YtjmapbmdfbdomaaDoor
