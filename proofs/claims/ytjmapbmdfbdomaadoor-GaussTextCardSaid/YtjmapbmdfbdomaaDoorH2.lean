/- The reference's Format: its contract. -/
import Derived.Test.YtjmapbmdfbdomaaDoorH1
namespace Go.Proofs.YtjmapbmdfbdomaaDoor
open Go.Ab
set_option linter.unusedVariables false
set_option linter.unusedSimpArgs false
set_option maxRecDepth 20000
attribute [local irreducible] wOps wA wSeq wBlk wRound wOpsD

theorem word_len {g : GC} (hg : VG g) : ∀ w ∈ wordsG g, w.length ≤ 3072 := by
  obtain ⟨g1, g2, g3, g4, g5, g6, g7⟩ := hg
  intro w hw
  rcases List.mem_append.1 hw with hw | hw
  · obtain ⟨vs, hvs, rfl⟩ := List.mem_map.1 hw
    have hv : ∀ v ∈ vs, 0 ≤ v.1 ∧ v.1 < 64 := fun v hv => by have := g5 v (List.mem_flatten.2 ⟨vs, hvs, hv⟩); omega
    have := wrdT_len g.S hv
    obtain ⟨i, hi⟩ := List.mem_iff_getElem?.1 hvs
    have h1 := flat_snoc hi
    have h2 := flat_le (C := g.C) (i + 1)
    rw [h1, List.length_append] at h2
    omega
  · rw [List.eq_of_mem_replicate hw]; simp
theorem join_take_len {g : GC} (hg : VG g) (i : Nat) : (joinS ((wordsG g).take i)).length ≤ 1000000 := by
  have h1 := (fmtG_len hg).1
  have h2 := joinS_len ((wordsG g).take i) 3072 (fun w hw => word_len hg w (List.mem_of_mem_take hw))
  have h3 : ((wordsG g).take i).length ≤ 192 := by rw [List.length_take]; omega
  have h4 := Nat.mul_le_mul_right 3073 h3
  omega
theorem join_step {ws : List (List UInt8)} {i : Nat} {w : List UInt8} (h : ws[i]? = some w) : joinS (ws.take (i + 1)) = (joinS (ws.take i) ++ (if i = 0 then [] else [32])) ++ w := by
  rw [take_snoc h]
  by_cases hi : i = 0
  · subst hi
    simp [joinS]
  · rw [if_neg hi, joinS_snoc w (fun e => by
      have h1 := congrArg List.length e
      have h2 := (List.getElem?_eq_some_iff.1 h).1
      rw [List.length_take, List.length_nil] at h1
      omega), List.append_assoc]
    rfl
def I12c (hb : Heap) (q : Nat) (g : GC) (E : Env) (h : Heap) : Prop := ∃ i : Nat, i ≤ (wordsG g).length ∧ Ext hb h ∧
  E = [(1, some (.sc (.ptr q 0))), (3, some (.sc (tb (joinS ((wordsG g).take i))))), (4, some (.sc (.int .i64 (i : Nat))))]
def R12c (hb : Heap) (g : GC) (ex : Ex) (E : Env) (h : Heap) : Prop := ex = .ex 0 ∧ Ext hb h ∧ ∃ a b c, E = [(1, a), (3, some (.sc (tb (fmtG g)))), (4, b), (16, c)]
set_option maxHeartbeats 4000000 in
theorem round12c (hb : Heap) (q : Nat) (X Sg : SV) (g : GC) (hg : VG g) (hX : IsComps hb X g.C) (hI : IsInts hb Sg g.S) (hq : Blk.At hb q [X, Sg, .int .i64 g.L]) (E : Env) (h : Heap) (hJ : I12c hb q g E h) :
    wA FT HKt b12L0 (E.keep [1, 3, 4]) h (wRound (I12c hb q g) (cnt (wordsG g).length 4) (cnt (wordsG g).length 4 E h) (R12c hb g)) := by
  obtain ⟨i, hi, e, rfl⟩ := hJ
  have hwl : (wordsG g).length = g.C.length + g.L.toNat := by simp [wordsG]
  have h192 := (fmtG_len hg).1
  have hL := hg.2.1
  have bq := hq.ext e
  have lX := hX.len
  have hjl := join_take_len hg i
  by_cases hlt : i < (wordsG g).length
  · obtain ⟨w, hw⟩ : ∃ w, (wordsG g)[i]? = some w := ⟨_, List.getElem?_eq_getElem hlt⟩
    have hst := join_step hw
    by_cases hC : i < g.C.length
    · obtain ⟨vs, hvs⟩ : ∃ vs, g.C[i]? = some vs := ⟨_, List.getElem?_eq_getElem hC⟩
      have hwv : w = wrdT g.S vs := by
        unfold wordsG at hw
        rw [List.getElem?_append_left (by simpa using hC), List.getElem?_map, hvs] at hw
        simpa using hw.symm
      rw [hwv] at hst
      by_cases h0 : i = 0
      · subst h0
        rw [if_pos rfl, List.append_nil] at hst
        repeat' (first | refine w_seq ?_ | refine w_seqN ?_ | refine w_blk ?_ | refine w_skip ?_ | refine w_ops ?_ | ((refine i_cond ?_); first | refine w_condT rfl ?_ | refine w_condF rfl ?_) | ((refine i_nil ?_); refine w_end4 rfl rfl rfl rfl ?_) | ((refine i_cons ?_); first | refine k_fldA rfl ?_ | refine k_ldb rfl bq rfl ?_ | refine k_len rfl lX ?_ | refine k_mv rfl ?_ | refine k_add rfl rfl (by omega) ?_ | refine k_lssT rfl rfl (by omega) ?_ | refine k_gtrF rfl rfl (by omega) ?_ | refine k_geqF rfl rfl (by omega) ?_))
        refine w_loop (I12v h q (joinS ((wordsG g).take 0)) g.S 0 vs) (cnt vs.length 5) (R12v h q (joinS ((wordsG g).take 0)) g.S 0 vs) ⟨0, Nat.zero_le _, Ext.refl _, by simp [wrdT]⟩ (round12v h q X Sg _ _ g hg 0 vs hvs (hX.ext e) (IsSl.ext hI e) bq (by omega)) ?_
        rintro ex E' h' ⟨rfl, e2, a, b, rfl⟩
        repeat' (first | refine w_seqN ?_ | refine w_blkN ?_ | refine w_blkX ?_ | refine w_ops ?_ | ((refine i_nil ?_); refine w_end3 rfl rfl rfl ?_) | ((refine i_cons ?_); first | refine k_mv rfl ?_ | refine k_add rfl rfl (by omega) ?_))
        exact w_roundN ⟨0 + 1, by omega, e.trans e2, by rw [hst]; rfl⟩ (by simp [cnt, Env.get]; omega)
      · rw [if_neg h0] at hst
        repeat' (first | refine w_seq ?_ | refine w_seqN ?_ | refine w_blk ?_ | refine w_skip ?_ | refine w_ops ?_ | ((refine i_cond ?_); first | refine w_condT rfl ?_ | refine w_condF rfl ?_) | ((refine i_nil ?_); first | refine w_end3 rfl rfl rfl ?_ | refine w_end4 rfl rfl rfl rfl ?_) | ((refine i_cons ?_); first | refine k_fldA rfl ?_ | refine k_ldb rfl bq rfl ?_ | refine k_len rfl lX ?_ | refine k_cat (b := [32]) rfl rfl (by simp only [List.length_singleton]; omega) ?_ | refine k_mv rfl ?_ | refine k_add rfl rfl (by omega) ?_ | refine k_lssT rfl rfl (by omega) ?_ | refine k_gtrT rfl rfl (by omega) ?_ | refine k_geqF rfl rfl (by omega) ?_))
        refine w_loop (I12v h q (joinS ((wordsG g).take i) ++ [32]) g.S i vs) (cnt vs.length 5) (R12v h q (joinS ((wordsG g).take i) ++ [32]) g.S i vs) ⟨0, Nat.zero_le _, Ext.refl _, by simp [wrdT]⟩ (round12v h q X Sg _ _ g hg i vs hvs (hX.ext e) (IsSl.ext hI e) bq (by rw [List.length_append, List.length_singleton]; omega)) ?_
        rintro ex E' h' ⟨rfl, e2, a, b, rfl⟩
        repeat' (first | refine w_seqN ?_ | refine w_blkN ?_ | refine w_blkX ?_ | refine w_ops ?_ | ((refine i_nil ?_); refine w_end3 rfl rfl rfl ?_) | ((refine i_cons ?_); first | refine k_mv rfl ?_ | refine k_add rfl rfl (by omega) ?_))
        exact w_roundN ⟨i + 1, by omega, e.trans e2, by rw [hst]; rfl⟩ (by simp [cnt, Env.get]; omega)
    · have hwv : w = [42] := by
        unfold wordsG at hw
        rw [List.getElem?_append_right (by simpa using Nat.le_of_not_lt hC), List.getElem?_replicate] at hw
        split at hw
        · simpa using hw.symm
        · cases hw
      subst hwv
      by_cases h0 : i = 0
      · subst h0
        rw [if_pos rfl, List.append_nil] at hst
        repeat' (first | refine w_seq ?_ | refine w_seqN ?_ | refine w_seqX ?_ | refine w_blk ?_ | refine w_blkX ?_ | refine w_skip ?_ | refine w_exit ?_ | refine w_ops ?_ | ((refine i_cond ?_); first | refine w_condT rfl ?_ | refine w_condF rfl ?_) | ((refine i_nil ?_); first | refine w_end3 rfl rfl rfl ?_ | refine w_end4 rfl rfl rfl rfl ?_) | ((refine i_cons ?_); first | refine k_fldA rfl ?_ | refine k_ldb rfl bq rfl ?_ | refine k_len rfl lX ?_ | refine k_cat (b := [42]) rfl rfl (by simp only [List.length_singleton]; omega) ?_ | refine k_mv rfl ?_ | refine k_add rfl rfl (by omega) ?_ | refine k_lssT rfl rfl (by omega) ?_ | refine k_gtrF rfl rfl (by omega) ?_ | refine k_geqT rfl rfl (by omega) ?_))
        exact w_roundN ⟨0 + 1, by omega, e, by rw [hst]; rfl⟩ (by simp [cnt, Env.get]; omega)
      · rw [if_neg h0] at hst
        repeat' (first | refine w_seq ?_ | refine w_seqN ?_ | refine w_seqX ?_ | refine w_blk ?_ | refine w_blkX ?_ | refine w_skip ?_ | refine w_exit ?_ | refine w_ops ?_ | ((refine i_cond ?_); refine w_condT rfl ?_) | ((refine i_nil ?_); first | refine w_end3 rfl rfl rfl ?_ | refine w_end4 rfl rfl rfl rfl ?_) | ((refine i_cons ?_); first | refine k_fldA rfl ?_ | refine k_ldb rfl bq rfl ?_ | refine k_len rfl lX ?_ | refine k_cat (b := [32]) rfl rfl (by simp only [List.length_singleton]; omega) ?_ | refine k_cat (b := [42]) rfl rfl (by simp only [List.length_append, List.length_singleton]; omega) ?_ | refine k_mv rfl ?_ | refine k_add rfl rfl (by omega) ?_ | refine k_lssT rfl rfl (by omega) ?_ | refine k_gtrT rfl rfl (by omega) ?_ | refine k_geqT rfl rfl (by omega) ?_))
        exact w_roundN ⟨i + 1, by omega, e, by rw [hst]; rfl⟩ (by simp [cnt, Env.get]; omega)
  · have hie : i = (wordsG g).length := by omega
    subst hie
    rw [List.take_length]
    repeat' (first | refine w_seq ?_ | refine w_seqN ?_ | refine w_seqX ?_ | refine w_exit ?_ | refine w_ops ?_ | ((refine i_cond ?_); refine w_condF rfl ?_) | ((refine i_nil ?_); refine w_end4 rfl rfl rfl rfl ?_) | ((refine i_cons ?_); first | refine k_fldA rfl ?_ | refine k_ldb rfl bq rfl ?_ | refine k_len rfl lX ?_ | refine k_mv rfl ?_ | refine k_add rfl rfl (by omega) ?_ | refine k_lssF rfl rfl (by omega) ?_))
    exact w_roundX ⟨rfl, e, _, _, _, rfl⟩
theorem call12 (h0 : Heap) (X Sg : SV) (g : GC) (hc : IsCode h0 X Sg g) (hg : VG g) : ∃ v h', Cal FT HKt 12 [.agg [X, Sg, .int .i64 g.L]] h0 v h' ∧ Ext h0 h' ∧ v = .sc (tb (fmtG g)) := by
  refine Cal.of (F := a12) rfl rfl rfl ?_
  repeat' (first | refine w_seq ?_ | refine w_seqN ?_ | refine w_blk ?_ | refine w_ops ?_ | ((refine i_nil ?_); first | refine w_end1 rfl ?_ | refine w_end2 rfl rfl ?_ | refine w_end3 rfl rfl rfl ?_) | ((refine i_cons ?_); first | (refine k_box rfl rfl ?_; intro h1 e1 l1 b1) | refine k_mv rfl ?_))
  refine w_loop (I12c h1 _ g) (cnt (wordsG g).length 4) (R12c h1 g) ⟨0, Nat.zero_le _, Ext.refl _, rfl⟩ (round12c h1 _ X Sg g hg (hc.x.ext e1) (IsSl.ext hc.s e1) b1) ?_
  rintro ex E' h' ⟨rfl, e2, a, b, c, rfl⟩
  repeat' (first | refine w_seq ?_ | refine w_seqN ?_ | refine w_blkX ?_ | refine w_ret ?_ | refine w_ops ?_ | ((refine i_nil ?_); refine w_end1 rfl ?_) | ((refine i_cons ?_); refine k_mv rfl ?_))
  exact ⟨.inr rfl, e1.trans e2, rfl⟩
end Go.Proofs.YtjmapbmdfbdomaaDoor
