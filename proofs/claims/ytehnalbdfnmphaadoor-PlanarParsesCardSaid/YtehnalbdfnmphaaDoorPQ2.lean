/- The reference: crossing. -/
import Derived.Test.YtehnalbdfnmphaaDoorPQ1
import Derived.Test.YtehnalbdfnmphaaDoorP2
namespace Go.Proofs.YtehnalbdfnmphaaDoor
open Go.Ab
set_option linter.unusedVariables false
set_option linter.unusedSimpArgs false
set_option maxRecDepth 20000
set_option maxHeartbeats 4000000
attribute [local irreducible] wOps wA wSeq wBlk wRound wRoundI wOpsD

theorem num4 {s : List UInt8} {v : Int} : numA s 1 9999 = some v ↔ numB s 4 = v ∧ 1 ≤ v := num_same (d := 4) (by omega) (by omega)
def I48 (hw : Heap) (u : SV) (sg : Int) (W : List (List UInt8)) (E : Env) (h : Heap) : Prop := Ext hw h ∧ ∃ (i : Nat) (acc : List Int) (o : SV), 1 ≤ i ∧ i ≤ 5 ∧ acc.length = i - 1 ∧ Own hw h o (acc.map (.int .i64)) ∧ labN 4 (W.drop 1) = (labN (5 - i) (W.drop i)).map (acc ++ ·) ∧
  E = [(4, some (.sc u)), (5, some (.sc (.int .i64 sg))), (6, some (.sc o)), (7, some (.sc (.int .i64 (i : Nat))))]
def R48 (hw : Heap) (u : SV) (sg : Int) (W : List (List UInt8)) (ex : Ex) (E : Env) (h : Heap) : Prop := Ext hw h ∧ match ex with
  | .rt => labN 4 (W.drop 1) = none ∧ E = [(2, some (.sc (.int .i64 0))), (3, some (.sc .nilS))]
  | .ex z => z = 0 ∧ ∃ (acc : List Int) (o : SV), labN 4 (W.drop 1) = some acc ∧ Own hw h o (acc.map (.int .i64)) ∧ ∃ x y z, E = [(4, x), (5, some (.sc (.int .i64 sg))), (6, some (.sc o)), (7, y), (27, z)]
  | .nm => False
theorem round48 (h0 hw : Heap) (u : SV) (sg : Int) (W : List (List UInt8)) (hu : Own h0 hw u (W.map tb)) (hW : W.length = 5) (hWl : ∀ w ∈ W, w.length ≤ 100000) (E : Env) (h : Heap) (hI : I48 hw u sg W E h) :
    wA FT HKt b48L0 (E.keep [4, 5, 6, 7]) h (wRound (I48 hw u sg W) (cntV 5 7) (cntV 5 7 E h) (R48 hw u sg W)) := by
  obtain ⟨he, i, acc, o, h1, h5, hal, ho, hlab, rfl⟩ := hI
  by_cases hlt : i < 5
  · obtain ⟨w, hw1⟩ : ∃ w, W[i]? = some w := ⟨_, List.getElem?_eq_getElem (by omega)⟩
    have hwl := hWl w (List.mem_of_getElem? hw1)
    obtain ⟨hil, hwe⟩ := List.getElem?_eq_some_iff.1 hw1
    have hdr : W.drop i = w :: W.drop (i + 1) := by rw [List.drop_eq_getElem_cons hil, hwe]
    have hsl : IsSl h u 1 (W.map tb).length (W.map tb) := (hu.ext he).sl
    obtain ⟨id, off, cap, eu, hr⟩ := hsl.at (i := i) (x := tb w) (by simp [hw1])
    rw [List.length_map, hW] at eu
    subst eu
    have hr' : ∀ {j : Int}, j = (i : Nat) → readN h id (off + j.toNat * 1) 1 = some [tb w] := fun hj => by subst hj; rw [Int.toNat_natCast]; exact hr
    have k1 := call47 h w 4 (by omega) (by omega)
    by_cases hb : numB w 4 < 1
    · have hno : labN 4 (W.drop 1) = none := by
        have hn : numA w 1 9999 = none := by
          cases hv : numA w 1 9999 with
          | none => rfl
          | some v => have := num4.1 hv; omega
        rw [hlab, hdr, show 5 - i = (4 - i) + 1 by omega]
        simp [labN, hn]
      generalize numB w 4 = y at *
      repeat' (first | refine w_seq ?_ | refine w_seqN ?_ | refine w_seqR ?_ | refine w_blk ?_ | refine w_blkR ?_ | refine w_skip ?_ | refine w_ret ?_ | refine w_ops ?_ | ((refine i_cond ?_); refine w_condT rfl ?_) | ((refine i_nil ?_); first | refine w_end2 rfl rfl ?_ | refine w_end5 rfl rfl rfl rfl rfl ?_ | refine w_end6 rfl rfl rfl rfl rfl rfl ?_) | ((refine i_cons ?_); first | refine k_idxA rfl rfl (by omega) ?_ | refine k_ld rfl (hr' (by omega)) ?_ | (refine k_call rfl k1 ?_; rintro v h3 ⟨rfl, rfl⟩) | refine k_mv rfl ?_ | refine k_lssT rfl rfl (by omega) ?_))
      exact w_roundR ⟨he, hno, rfl⟩
    · have hn : numA w 1 9999 = some (numB w 4) := num4.2 ⟨rfl, by omega⟩
      have hyes : labN 4 (W.drop 1) = (labN (5 - (i + 1)) (W.drop (i + 1))).map ((acc ++ [numB w 4]) ++ ·) := by
        rw [hlab, hdr, show 5 - i = (5 - (i + 1)) + 1 by omega]
        simp only [labN, hn]
        cases labN (5 - (i + 1)) (W.drop (i + 1)) with
        | none => rfl
        | some l => simp
      generalize numB w 4 = y at *
      repeat' (first | refine w_seq ?_ | refine w_seqN ?_ | refine w_blk ?_ | refine w_blkN ?_ | refine w_skip ?_ | refine w_ops ?_ | ((refine i_cond ?_); first | refine w_condT rfl ?_ | refine w_condF rfl ?_) | ((refine i_nil ?_); first | refine w_end4 rfl rfl rfl rfl ?_ | refine w_end5 rfl rfl rfl rfl rfl ?_ | refine w_end6 rfl rfl rfl rfl rfl rfl ?_) | ((refine i_cons ?_); first | refine k_idxA rfl rfl (by omega) ?_ | refine k_ld rfl (hr' (by omega)) ?_ | (refine k_call rfl k1 ?_; rintro v h3 ⟨rfl, rfl⟩) | (refine k_push he ho rfl rfl (by simp only [List.length_map, bigN]; omega) ?_; intro s' h2 o2 e2 f2) | refine k_mv rfl ?_ | refine k_add rfl rfl (by omega) ?_ | refine k_lssT rfl rfl (by omega) ?_ | refine k_lssF rfl rfl (by omega) ?_))
      refine w_roundN ⟨e2, i + 1, acc ++ [y], s', by omega, by omega, by simp; omega, by simpa using o2, hyes, rfl⟩ (by simp [cntV, Env.get]; omega)
  · have : i = 5 := by omega
    subst this
    have hd5 : W.drop 5 = [] := List.drop_eq_nil_of_le (by omega)
    rw [hd5] at hlab
    repeat' (first | refine w_seq ?_ | refine w_seqN ?_ | refine w_seqX ?_ | refine w_exit ?_ | refine w_ops ?_ | ((refine i_cond ?_); refine w_condF rfl ?_) | ((refine i_nil ?_); refine w_end5 rfl rfl rfl rfl rfl ?_) | ((refine i_cons ?_); first | refine k_mv rfl ?_ | refine k_lssF rfl rfl (by omega) ?_))
    exact w_roundX ⟨he, rfl, acc, o, by rw [hlab]; simp [labN], ho, _, _, _, rfl⟩
/-- What the reference's crossing answers. -/
def CrsR (s : List UInt8) (h0 : Heap) (v : AV) (h' : Heap) : Prop := Ext h0 h' ∧ ∃ (sg : Int) (u : SV), v = .tup [.sc (.int .i64 sg), .sc u] ∧ match crs s with
  | some (x, l) => sg = x ∧ Own h0 h' u (l.map (.int .i64))
  | none => sg = 0
theorem spl_sum (c : UInt8) : ∀ (s w : List UInt8), w ∈ spl c s → w.length ≤ s.length
  | [], w, h => by simp [spl] at h; subst h; simp
  | x :: r, w, h => by
    unfold spl at h
    split at h
    · rcases List.mem_cons.1 h with rfl | h
      · simp
      · have := spl_sum c r w h
        simp; omega
    · cases hr : spl c r with
      | nil => exact absurd hr (spl_ne _ _)
      | cons a t =>
        rw [hr] at h
        simp only [List.headD_cons, List.tail_cons] at h
        rcases List.mem_cons.1 h with rfl | h
        · have := spl_sum c r a (by rw [hr]; simp)
          simp; omega
        · have := spl_sum c r w (by rw [hr]; simp [h])
          simp; omega
theorem call48 (h0 : Heap) (s : List UInt8) (hl : s.length ≤ 100000) : ∃ v h', Cal FT HKt 48 [.sc (tb s)] h0 v h' ∧ CrsR s h0 v h' := by
  refine Cal.of (F := a48) rfl rfl rfl ?_
  have k1 := call46 h0 s 32 hl
  have e32 : ((32 : UInt8).toNat : Int) = 32 := by decide
  rw [e32] at k1
  repeat' (first | refine w_seq ?_ | refine w_seqN ?_ | refine w_ops ?_ | ((refine i_nil ?_); first | refine w_end1 rfl ?_ | refine w_end2 rfl rfl ?_) | ((refine i_cons ?_); first | (refine k_call rfl k1 ?_; rintro v hw ⟨he, u, rfl, hu⟩) | refine k_mv rfl ?_))
  have hWl := spl_sum 32 s
  obtain ⟨w, r, hWe⟩ : ∃ w r, spl 32 s = w :: r := by
    cases hr : spl 32 s with
    | nil => exact absurd hr (spl_ne _ _)
    | cons w r => exact ⟨w, r, rfl⟩
  have hcr : crs s = if w = [43] ∨ w = [45] then (labN 4 r).map fun l => (if w = [43] then 1 else -1, l) else none := by
    unfold crs; rw [hWe, crsL_cons]
  rw [hWe] at hu hWl
  have hsl : IsSl hw u 1 ((w :: r).map tb).length ((w :: r).map tb) := hu.sl
  obtain ⟨id, off, cap, eu, hr0⟩ := hsl.at (i := 0) (x := tb w) rfl
  have hun : ((w :: r).map tb).length = r.length + 1 := by simp
  rw [hun] at eu
  subst eu
  have hr' : readN hw id (off + ((0 : Int)).toNat * 1) 1 = some [tb w] := hr0
  have fin : ∀ (sg : Int), (w = [43] ∨ w = [45]) → sg = (if w = [43] then 1 else -1) → crs s = (labN 4 r).map fun l => (sg, l) := fun sg hw1 hsg => by rw [hcr, if_pos hw1, hsg]
  by_cases c1 : w = [43]
  · have c2 : ¬ w = [45] := by rw [c1]; decide
    have hcs := fin 1 (.inl c1) (by rw [if_pos c1])
    by_cases hlen : r.length = 4
    · repeat' (first | refine w_seq ?_ | refine w_seqN ?_ | refine w_blk ?_ | refine w_skip ?_ | refine w_ops ?_ | ((refine i_cond ?_); first | refine w_condT rfl ?_ | refine w_condF rfl ?_) | ((refine i_nil ?_); first | refine w_end2 rfl rfl ?_ | refine w_end3 rfl rfl rfl ?_ | refine w_end4 rfl rfl rfl rfl ?_) | ((refine i_cons ?_); first | refine k_idxA (j := 0) rfl rfl (by omega) ?_ | refine k_ld rfl hr' ?_ | refine k_seql rfl (show _ = some (tb [43]) from rfl) (decide_eq_true c1) ?_ | refine k_seql rfl (show _ = some (tb [45]) from rfl) (decide_eq_false c2) ?_ | refine k_len rfl rfl ?_ | refine k_want rfl ?_ | refine k_mv rfl ?_ | refine k_pickF rfl rfl ?_ | refine k_eqlF rfl rfl (by omega) ?_ | refine k_neqF rfl rfl (by omega) ?_))
      refine w_loop (I48 hw _ (1) (w :: r)) (cntV 5 7) (R48 hw _ (1) (w :: r)) ⟨Ext.refl _, 1, [], .nilS, by omega, by omega, rfl, .inl ⟨rfl, rfl⟩, by simp, rfl⟩ (round48 h0 hw _ (1) (w :: r) hu (by simp [hlen]) (fun w' hw' => Nat.le_trans (hWl w' hw') hl)) ?_
      rintro ex E' h' ⟨e2, hR⟩
      cases ex with
      | nm => exact hR.elim
      | rt =>
        obtain ⟨hno, rfl⟩ := hR
        repeat' (first | refine w_seqR ?_ | refine w_blkR ?_)
        refine ⟨.inr rfl, he.trans e2, _, _, rfl, ?_⟩
        rw [hcs, show labN 4 r = none from hno]; rfl
      | ex z =>
        obtain ⟨rfl, acc, o, ha, hoo, x, y, z, rfl⟩ := hR
        repeat' (first | refine w_seq ?_ | refine w_seqN ?_ | refine w_blkX ?_ | refine w_ret ?_ | refine w_ops ?_ | ((refine i_nil ?_); refine w_end2 rfl rfl ?_) | ((refine i_cons ?_); refine k_mv rfl ?_))
        refine ⟨.inr rfl, he.trans e2, _, _, rfl, ?_⟩
        rw [hcs, show labN 4 r = some acc from ha]
        exact ⟨rfl, hoo.weaken he.len⟩
    · have hno : labN 4 r = none := by
        cases h : labN 4 r with
        | none => rfl
        | some l => exact absurd (labN_len h).1 hlen
      repeat' (first | refine w_seq ?_ | refine w_seqN ?_ | refine w_seqR ?_ | refine w_skip ?_ | refine w_ret ?_ | refine w_ops ?_ | ((refine i_cond ?_); first | refine w_condT rfl ?_ | refine w_condF rfl ?_) | ((refine i_nil ?_); first | refine w_end2 rfl rfl ?_ | refine w_end3 rfl rfl rfl ?_) | ((refine i_cons ?_); first | refine k_idxA (j := 0) rfl rfl (by omega) ?_ | refine k_ld rfl hr' ?_ | refine k_seql rfl (show _ = some (tb [43]) from rfl) (decide_eq_true c1) ?_ | refine k_seql rfl (show _ = some (tb [45]) from rfl) (decide_eq_false c2) ?_ | refine k_len rfl rfl ?_ | refine k_skip rfl ?_ | refine k_mv rfl ?_ | refine k_pickT rfl rfl ?_ | refine k_neqT rfl rfl (by omega) ?_))
      refine ⟨.inr rfl, he, _, _, rfl, ?_⟩
      rw [hcs, hno]; rfl
  by_cases c2 : w = [45]
  · have hcs := fin (-1) (.inr c2) (by rw [if_neg c1])
    by_cases hlen : r.length = 4
    · repeat' (first | refine w_seq ?_ | refine w_seqN ?_ | refine w_blk ?_ | refine w_skip ?_ | refine w_ops ?_ | ((refine i_cond ?_); first | refine w_condT rfl ?_ | refine w_condF rfl ?_) | ((refine i_nil ?_); first | refine w_end2 rfl rfl ?_ | refine w_end3 rfl rfl rfl ?_ | refine w_end4 rfl rfl rfl rfl ?_) | ((refine i_cons ?_); first | refine k_idxA (j := 0) rfl rfl (by omega) ?_ | refine k_ld rfl hr' ?_ | refine k_seql rfl (show _ = some (tb [43]) from rfl) (decide_eq_false c1) ?_ | refine k_seql rfl (show _ = some (tb [45]) from rfl) (decide_eq_true c2) ?_ | refine k_len rfl rfl ?_ | refine k_want rfl ?_ | refine k_mv rfl ?_ | refine k_pickF rfl rfl ?_ | refine k_eqlF rfl rfl (by omega) ?_ | refine k_neqF rfl rfl (by omega) ?_))
      refine w_loop (I48 hw _ (-1) (w :: r)) (cntV 5 7) (R48 hw _ (-1) (w :: r)) ⟨Ext.refl _, 1, [], .nilS, by omega, by omega, rfl, .inl ⟨rfl, rfl⟩, by simp, rfl⟩ (round48 h0 hw _ (-1) (w :: r) hu (by simp [hlen]) (fun w' hw' => Nat.le_trans (hWl w' hw') hl)) ?_
      rintro ex E' h' ⟨e2, hR⟩
      cases ex with
      | nm => exact hR.elim
      | rt =>
        obtain ⟨hno, rfl⟩ := hR
        repeat' (first | refine w_seqR ?_ | refine w_blkR ?_)
        refine ⟨.inr rfl, he.trans e2, _, _, rfl, ?_⟩
        rw [hcs, show labN 4 r = none from hno]; rfl
      | ex z =>
        obtain ⟨rfl, acc, o, ha, hoo, x, y, z, rfl⟩ := hR
        repeat' (first | refine w_seq ?_ | refine w_seqN ?_ | refine w_blkX ?_ | refine w_ret ?_ | refine w_ops ?_ | ((refine i_nil ?_); refine w_end2 rfl rfl ?_) | ((refine i_cons ?_); refine k_mv rfl ?_))
        refine ⟨.inr rfl, he.trans e2, _, _, rfl, ?_⟩
        rw [hcs, show labN 4 r = some acc from ha]
        exact ⟨rfl, hoo.weaken he.len⟩
    · have hno : labN 4 r = none := by
        cases h : labN 4 r with
        | none => rfl
        | some l => exact absurd (labN_len h).1 hlen
      repeat' (first | refine w_seq ?_ | refine w_seqN ?_ | refine w_seqR ?_ | refine w_skip ?_ | refine w_ret ?_ | refine w_ops ?_ | ((refine i_cond ?_); first | refine w_condT rfl ?_ | refine w_condF rfl ?_) | ((refine i_nil ?_); first | refine w_end2 rfl rfl ?_ | refine w_end3 rfl rfl rfl ?_) | ((refine i_cons ?_); first | refine k_idxA (j := 0) rfl rfl (by omega) ?_ | refine k_ld rfl hr' ?_ | refine k_seql rfl (show _ = some (tb [43]) from rfl) (decide_eq_false c1) ?_ | refine k_seql rfl (show _ = some (tb [45]) from rfl) (decide_eq_true c2) ?_ | refine k_len rfl rfl ?_ | refine k_skip rfl ?_ | refine k_mv rfl ?_ | refine k_pickT rfl rfl ?_ | refine k_neqT rfl rfl (by omega) ?_))
      refine ⟨.inr rfl, he, _, _, rfl, ?_⟩
      rw [hcs, hno]; rfl
  · have hcs : crs s = none := by rw [hcr, if_neg (by simp [c1, c2])]
    by_cases hlen : r.length = 4
    · repeat' (first | refine w_seq ?_ | refine w_seqN ?_ | refine w_seqR ?_ | refine w_skip ?_ | refine w_ret ?_ | refine w_ops ?_ | ((refine i_cond ?_); first | refine w_condT rfl ?_ | refine w_condF rfl ?_) | ((refine i_nil ?_); first | refine w_end2 rfl rfl ?_ | refine w_end3 rfl rfl rfl ?_) | ((refine i_cons ?_); first | refine k_idxA (j := 0) rfl rfl (by omega) ?_ | refine k_ld rfl hr' ?_ | refine k_seql rfl (show _ = some (tb [43]) from rfl) (decide_eq_false c1) ?_ | refine k_seql rfl (show _ = some (tb [45]) from rfl) (decide_eq_false c2) ?_ | refine k_len rfl rfl ?_ | refine k_want rfl ?_ | refine k_mv rfl ?_ | refine k_pickF rfl rfl ?_ | refine k_eqlT rfl rfl (by omega) ?_ | refine k_neqF rfl rfl (by omega) ?_))
      refine ⟨.inr rfl, he, _, _, rfl, ?_⟩
      rw [hcs]
    · repeat' (first | refine w_seq ?_ | refine w_seqN ?_ | refine w_seqR ?_ | refine w_skip ?_ | refine w_ret ?_ | refine w_ops ?_ | ((refine i_cond ?_); first | refine w_condT rfl ?_ | refine w_condF rfl ?_) | ((refine i_nil ?_); first | refine w_end2 rfl rfl ?_ | refine w_end3 rfl rfl rfl ?_) | ((refine i_cons ?_); first | refine k_idxA (j := 0) rfl rfl (by omega) ?_ | refine k_ld rfl hr' ?_ | refine k_seql rfl (show _ = some (tb [43]) from rfl) (decide_eq_false c1) ?_ | refine k_seql rfl (show _ = some (tb [45]) from rfl) (decide_eq_false c2) ?_ | refine k_len rfl rfl ?_ | refine k_skip rfl ?_ | refine k_mv rfl ?_ | refine k_pickT rfl rfl ?_ | refine k_neqT rfl rfl (by omega) ?_))
      refine ⟨.inr rfl, he, _, _, rfl, ?_⟩
      rw [hcs]
end Go.Proofs.YtehnalbdfnmphaaDoor
