/- gauss.Format: its contract. -/
import Derived.Test.YtjmapbmdfbdomaaDoorT3
import Derived.Test.YtjmapbmdfbdomaaDoorG2
namespace Go.Proofs.YtjmapbmdfbdomaaDoor
open Go.Ab
set_option linter.unusedVariables false
set_option linter.unusedSimpArgs false
set_option maxRecDepth 20000
attribute [local irreducible] wOps wA wSeq wBlk wRound wOpsD

theorem visT_len (S : List Int) {v : Vis} (h : 0 ≤ v.1 ∧ v.1 < 64) : (visT S v).length ≤ 24 := by
  have := Lib.itoa_length_le (v.1 + 1) (by omega) (by omega)
  simp only [visT, List.length_cons, List.length_append, List.length_nil]; omega
theorem wrdT_len (S : List Int) : ∀ {vs : List Vis}, (∀ v ∈ vs, 0 ≤ v.1 ∧ v.1 < 64) → (wrdT S vs).length ≤ vs.length * 24
  | [], _ => by simp [wrdT]
  | v :: r, h => by
    have h1 := visT_len S (h v (by simp))
    have h2 := wrdT_len S (vs := r) (fun u hu => h u (by simp [hu]))
    have e : wrdT S (v :: r) = visT S v ++ wrdT S r := by simp [wrdT]
    rw [e, List.length_append, List.length_cons]; omega
theorem wrdT_snoc (S : List Int) (vs : List Vis) (v : Vis) : wrdT S (vs ++ [v]) = wrdT S vs ++ visT S v := by simp [wrdT]

def I8v (hb : Heap) (B q : Nat) (w X t : SV) (S : List Int) (n i : Nat) (vs : List Vis) (E : Env) (h : Heap) : Prop := ∃ k : Nat, k ≤ vs.length ∧ BL hb h B (wrdT S (vs.take k)) ∧
  E = [(1, some (.sc (.ptr q 0))), (4, some (.sc w)), (7, some (.sc (.ptr B 0))), (14, some (.sc X)), (15, some (.sc (.int .i64 (n : Nat)))), (16, some (.sc (.int .i64 (i : Nat)))), (20, some (.sc t)), (21, some (.sc (.int .i64 (vs.length : Nat)))), (22, some (.sc (.int .i64 (k : Nat))))]
def R8v (hb : Heap) (B q : Nat) (w X : SV) (S : List Int) (n i : Nat) (vs : List Vis) (ex : Ex) (E : Env) (h : Heap) : Prop := ex = .ex 2 ∧ BL hb h B (wrdT S vs) ∧ ∃ a b c d,
  E = [(1, some (.sc (.ptr q 0))), (4, some (.sc w)), (7, some (.sc (.ptr B 0))), (14, some (.sc X)), (15, some (.sc (.int .i64 (n : Nat)))), (16, some (.sc (.int .i64 (i : Nat)))), (20, a), (21, b), (22, c), (23, d)]
set_option maxHeartbeats 4000000 in
theorem round8v (hb : Heap) (B q : Nat) (w X t Y Sg Z : SV) (S : List Int) (hS : ∀ s ∈ S, s = 1 ∨ s = -1) (n i : Nat) (vs : List Vis) (ht : IsVis hb t vs) (hI : IsInts hb Sg S) (hq : Blk.At hb q [Y, Sg, Z]) (hv : ∀ v ∈ vs, 0 ≤ v.1 ∧ v.1 < S.length) (h64 : S.length ≤ 64) (hl : vs.length ≤ 128) (E : Env) (h : Heap) (hJ : I8v hb B q w X t S n i vs E h) :
    wA FT HKt b8L1 (E.keep [1, 4, 7, 14, 15, 16, 20, 21, 22]) h (wRound (I8v hb B q w X t S n i vs) (cnt vs.length 22) (cnt vs.length 22 E h) (R8v hb B q w X S n i vs)) := by
  obtain ⟨k, hk, b0, rfl⟩ := hJ
  by_cases hlt : k < vs.length
  · obtain ⟨v, hx⟩ : ∃ v, vs[k]? = some v := ⟨_, List.getElem?_eq_getElem hlt⟩
    obtain ⟨v1, v2⟩ := hv v (List.mem_of_getElem? hx)
    obtain ⟨id, off, cap, rfl, hrd⟩ := (ht.ext b0.ext).at hx
    have en : vs.take (k + 1) = vs.take k ++ [v] := take_snoc hx
    have hvn : v.1.toNat < S.length := by omega
    obtain ⟨x, hxs⟩ : ∃ x, S[v.1.toNat]? = some x := ⟨_, List.getElem?_eq_getElem hvn⟩
    have hxv : x = 1 ∨ x = -1 := hS x (List.mem_of_getElem? hxs)
    have hgd : S.getD v.1.toNat 0 = x := by rw [List.getD_eq_getElem?_getD, hxs]; rfl
    obtain ⟨id2, off2, cap2, rfl, hrS⟩ := IsInts.at hI hxs
    have lw := wrdT_len S (vs := vs.take k) (fun u hu => by have := hv u (List.mem_of_mem_take hu); omega)
    have lk : (vs.take k).length ≤ 128 := by rw [List.length_take]; omega
    have hit := Lib.itoa_length_le (v.1 + 1) (by omega) (by omega)
    have hkk : (k : Int) < 1000 := by omega
    rcases hxv with h1 | h1
    · have eT : wrdT S (vs.take (k + 1)) = ((wrdT S (vs.take k) ++ [if v.2 = true then 79 else 85]) ++ Lib.itoa (v.1 + 1)) ++ [43] := by
        rw [en, wrdT_snoc]
        simp only [visT, hgd, if_pos h1, List.append_assoc, List.singleton_append, List.cons_append, List.nil_append]
      subst h1
      cases ho : v.2 with
      | true =>
        rw [ho, if_pos rfl] at eT
        repeat' (first | refine w_seq ?_ | refine w_seqN ?_ | refine w_blk ?_ | refine w_blkN ?_ | refine w_skip ?_ | refine w_ops ?_ | ((refine i_cond ?_); refine w_condT rfl ?_) | ((refine i_nil ?_); first | refine w_end9 rfl rfl rfl rfl rfl rfl rfl rfl rfl ?_ | refine w_end10 rfl rfl rfl rfl rfl rfl rfl rfl rfl rfl ?_ | refine w_end11 rfl rfl rfl rfl rfl rfl rfl rfl rfl rfl rfl ?_) | ((refine i_cons ?_); first | refine k_idxA (esz := 2) rfl rfl (by omega) ?_ | refine op_ldA rfl rfl hrd ?_ | (refine k_newst rfl ?_; intro h1 e1 c1; rw [ho] at c1; have b1 := BLq.of b0 e1 c1) | refine k_fldA rfl ?_ | refine k_ldC1 rfl c1 ?_ | (refine k_call rfl (call18q hb _ B _ 79 _ _ b1 (by omega)) ?_; rintro v h2 ⟨rfl, b2⟩) | refine k_ldC0 rfl b2.at ?_ | (refine k_call rfl (itoa_call _ (by omega)) ?_; rintro v h' ⟨rfl, rfl⟩) | (refine k_call rfl (call19q hb _ B _ _ _ _ b2 (by rw [List.length_append, List.length_singleton]; omega) (by omega)) ?_; rintro v h3 b3; have hq3 := hq.ext b3.bl.ext; have r3 := readN_ext b3.bl.ext hrS) | refine k_ldb rfl hq3 rfl ?_ | refine k_ldC0 rfl b3.at ?_ | refine k_idxA (esz := 1) rfl rfl (by omega) ?_ | refine k_ld rfl r3 ?_ | (refine k_call rfl (call18 hb _ B _ 43 b3.bl (by simp only [List.length_append, List.length_singleton]; omega)) ?_; rintro v h4 ⟨rfl, b4⟩) | refine k_mv rfl ?_ | refine k_add rfl rfl (by omega) ?_ | refine k_lssT rfl rfl (by omega) ?_ | refine k_eqlT rfl rfl (by omega) ?_))
        exact w_roundN ⟨k + 1, by omega, by rw [eT]; exact b4, rfl⟩ (by simp [cnt, Env.get]; omega)
      | false =>
        rw [ho, if_neg (by decide)] at eT
        repeat' (first | refine w_seq ?_ | refine w_seqN ?_ | refine w_blk ?_ | refine w_blkN ?_ | refine w_skip ?_ | refine w_ops ?_ | ((refine i_cond ?_); first | refine w_condT rfl ?_ | refine w_condF rfl ?_) | ((refine i_nil ?_); first | refine w_end9 rfl rfl rfl rfl rfl rfl rfl rfl rfl ?_ | refine w_end10 rfl rfl rfl rfl rfl rfl rfl rfl rfl rfl ?_ | refine w_end11 rfl rfl rfl rfl rfl rfl rfl rfl rfl rfl rfl ?_) | ((refine i_cons ?_); first | refine k_idxA (esz := 2) rfl rfl (by omega) ?_ | refine op_ldA rfl rfl hrd ?_ | (refine k_newst rfl ?_; intro h1 e1 c1; rw [ho] at c1; have b1 := BLq.of b0 e1 c1) | refine k_fldA rfl ?_ | refine k_ldC1 rfl c1 ?_ | (refine k_call rfl (call18q hb _ B _ 85 _ _ b1 (by omega)) ?_; rintro v h2 ⟨rfl, b2⟩) | refine k_ldC0 rfl b2.at ?_ | (refine k_call rfl (itoa_call _ (by omega)) ?_; rintro v h' ⟨rfl, rfl⟩) | (refine k_call rfl (call19q hb _ B _ _ _ _ b2 (by rw [List.length_append, List.length_singleton]; omega) (by omega)) ?_; rintro v h3 b3; have hq3 := hq.ext b3.bl.ext; have r3 := readN_ext b3.bl.ext hrS) | refine k_ldb rfl hq3 rfl ?_ | refine k_ldC0 rfl b3.at ?_ | refine k_idxA (esz := 1) rfl rfl (by omega) ?_ | refine k_ld rfl r3 ?_ | (refine k_call rfl (call18 hb _ B _ 43 b3.bl (by simp only [List.length_append, List.length_singleton]; omega)) ?_; rintro v h4 ⟨rfl, b4⟩) | refine k_mv rfl ?_ | refine k_add rfl rfl (by omega) ?_ | refine k_lssT rfl rfl (by omega) ?_ | refine k_eqlT rfl rfl (by omega) ?_))
        exact w_roundN ⟨k + 1, by omega, by rw [eT]; exact b4, rfl⟩ (by simp [cnt, Env.get]; omega)
    · have eT : wrdT S (vs.take (k + 1)) = ((wrdT S (vs.take k) ++ [if v.2 = true then 79 else 85]) ++ Lib.itoa (v.1 + 1)) ++ [45] := by
        rw [en, wrdT_snoc]
        simp only [visT, hgd, if_neg (show ¬ x = 1 by omega), List.append_assoc, List.singleton_append, List.cons_append, List.nil_append]
      subst h1
      cases ho : v.2 with
      | true =>
        rw [ho, if_pos rfl] at eT
        repeat' (first | refine w_seq ?_ | refine w_seqN ?_ | refine w_blk ?_ | refine w_blkN ?_ | refine w_skip ?_ | refine w_ops ?_ | ((refine i_cond ?_); first | refine w_condT rfl ?_ | refine w_condF rfl ?_) | ((refine i_nil ?_); first | refine w_end9 rfl rfl rfl rfl rfl rfl rfl rfl rfl ?_ | refine w_end10 rfl rfl rfl rfl rfl rfl rfl rfl rfl rfl ?_ | refine w_end11 rfl rfl rfl rfl rfl rfl rfl rfl rfl rfl rfl ?_) | ((refine i_cons ?_); first | refine k_idxA (esz := 2) rfl rfl (by omega) ?_ | refine op_ldA rfl rfl hrd ?_ | (refine k_newst rfl ?_; intro h1 e1 c1; rw [ho] at c1; have b1 := BLq.of b0 e1 c1) | refine k_fldA rfl ?_ | refine k_ldC1 rfl c1 ?_ | (refine k_call rfl (call18q hb _ B _ 79 _ _ b1 (by omega)) ?_; rintro v h2 ⟨rfl, b2⟩) | refine k_ldC0 rfl b2.at ?_ | (refine k_call rfl (itoa_call _ (by omega)) ?_; rintro v h' ⟨rfl, rfl⟩) | (refine k_call rfl (call19q hb _ B _ _ _ _ b2 (by rw [List.length_append, List.length_singleton]; omega) (by omega)) ?_; rintro v h3 b3; have hq3 := hq.ext b3.bl.ext; have r3 := readN_ext b3.bl.ext hrS) | refine k_ldb rfl hq3 rfl ?_ | refine k_ldC0 rfl b3.at ?_ | refine k_idxA (esz := 1) rfl rfl (by omega) ?_ | refine k_ld rfl r3 ?_ | (refine k_call rfl (call18 hb _ B _ 45 b3.bl (by simp only [List.length_append, List.length_singleton]; omega)) ?_; rintro v h4 ⟨rfl, b4⟩) | refine k_mv rfl ?_ | refine k_add rfl rfl (by omega) ?_ | refine k_lssT rfl rfl (by omega) ?_ | refine k_eqlF rfl rfl (by omega) ?_))
        exact w_roundN ⟨k + 1, by omega, by rw [eT]; exact b4, rfl⟩ (by simp [cnt, Env.get]; omega)
      | false =>
        rw [ho, if_neg (by decide)] at eT
        repeat' (first | refine w_seq ?_ | refine w_seqN ?_ | refine w_blk ?_ | refine w_blkN ?_ | refine w_skip ?_ | refine w_ops ?_ | ((refine i_cond ?_); first | refine w_condT rfl ?_ | refine w_condF rfl ?_) | ((refine i_nil ?_); first | refine w_end9 rfl rfl rfl rfl rfl rfl rfl rfl rfl ?_ | refine w_end10 rfl rfl rfl rfl rfl rfl rfl rfl rfl rfl ?_ | refine w_end11 rfl rfl rfl rfl rfl rfl rfl rfl rfl rfl rfl ?_) | ((refine i_cons ?_); first | refine k_idxA (esz := 2) rfl rfl (by omega) ?_ | refine op_ldA rfl rfl hrd ?_ | (refine k_newst rfl ?_; intro h1 e1 c1; rw [ho] at c1; have b1 := BLq.of b0 e1 c1) | refine k_fldA rfl ?_ | refine k_ldC1 rfl c1 ?_ | (refine k_call rfl (call18q hb _ B _ 85 _ _ b1 (by omega)) ?_; rintro v h2 ⟨rfl, b2⟩) | refine k_ldC0 rfl b2.at ?_ | (refine k_call rfl (itoa_call _ (by omega)) ?_; rintro v h' ⟨rfl, rfl⟩) | (refine k_call rfl (call19q hb _ B _ _ _ _ b2 (by rw [List.length_append, List.length_singleton]; omega) (by omega)) ?_; rintro v h3 b3; have hq3 := hq.ext b3.bl.ext; have r3 := readN_ext b3.bl.ext hrS) | refine k_ldb rfl hq3 rfl ?_ | refine k_ldC0 rfl b3.at ?_ | refine k_idxA (esz := 1) rfl rfl (by omega) ?_ | refine k_ld rfl r3 ?_ | (refine k_call rfl (call18 hb _ B _ 45 b3.bl (by simp only [List.length_append, List.length_singleton]; omega)) ?_; rintro v h4 ⟨rfl, b4⟩) | refine k_mv rfl ?_ | refine k_add rfl rfl (by omega) ?_ | refine k_lssT rfl rfl (by omega) ?_ | refine k_eqlF rfl rfl (by omega) ?_))
        exact w_roundN ⟨k + 1, by omega, by rw [eT]; exact b4, rfl⟩ (by simp [cnt, Env.get]; omega)
  · have hke : k = vs.length := by omega
    subst hke
    rw [List.take_length] at b0
    repeat' (first | refine w_seq ?_ | refine w_seqN ?_ | refine w_seqX ?_ | refine w_exit ?_ | refine w_ops ?_ | ((refine i_cond ?_); refine w_condF rfl ?_) | ((refine i_nil ?_); refine w_end10 rfl rfl rfl rfl rfl rfl rfl rfl rfl rfl ?_) | ((refine i_cons ?_); refine k_lssF rfl rfl (by omega) ?_))
    exact w_roundX ⟨rfl, b0, _, _, _, _, rfl⟩
end Go.Proofs.YtjmapbmdfbdomaaDoor
