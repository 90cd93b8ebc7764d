/- slices.Reverse of a slice of pairs: contract. -/
import Derived.Test.YtlnjddjobbhcaaaDoorPX
namespace Go.Proofs.YtlnjddjobbhcaaaDoor
open Go.Ab
set_option linter.unusedVariables false
set_option linter.unusedSimpArgs false
set_option maxRecDepth 20000
set_option maxHeartbeats 4000000
attribute [local irreducible] wOps wA wSeq wBlk wRound wRoundI wOpsD wOpsS

abbrev zP2 : P2 := (.nilS, .nilS)
/-- The first k and the last k have changed places. -/
def revK (ps : List P2) (k : Nat) : List P2 := (List.range ps.length).map fun t => if t < k ∨ ps.length ≤ t + k then ps.getD (ps.length - 1 - t) zP2 else ps.getD t zP2
theorem revK_len (ps : List P2) (k : Nat) : (revK ps k).length = ps.length := by simp [revK]
theorem revK_at {ps : List P2} {k t : Nat} (ht : t < ps.length) : (revK ps k)[t]? = some (if t < k ∨ ps.length ≤ t + k then ps.getD (ps.length - 1 - t) zP2 else ps.getD t zP2) := by
  simp [revK, ht]
theorem revK_zero (ps : List P2) : revK ps 0 = ps := by
  refine List.ext_getElem? fun t => ?_
  rcases Nat.lt_or_ge t ps.length with h | h
  · rw [revK_at h, if_neg (by omega)]
    simp [List.getD, h]
  · rw [List.getElem?_eq_none (by rw [revK_len]; exact h), List.getElem?_eq_none h]
theorem revK_end {ps : List P2} {k : Nat} (hk : ps.length ≤ 2 * k + 1) : revK ps k = ps.reverse := by
  refine List.ext_getElem? fun t => ?_
  rcases Nat.lt_or_ge t ps.length with h | h
  · rw [revK_at h, List.getElem?_reverse h]
    have e : ps[ps.length - 1 - t]? = some (ps.getD (ps.length - 1 - t) zP2) := by simp [List.getD, show ps.length - 1 - t < ps.length by omega]
    rw [e]
    by_cases c : t < k ∨ ps.length ≤ t + k
    · rw [if_pos c]
    · rw [if_neg c, show ps.length - 1 - t = t by omega]
  · rw [List.getElem?_eq_none (by rw [revK_len]; exact h), List.getElem?_eq_none (by rw [List.length_reverse]; exact h)]
theorem revK_step {ps : List P2} {k : Nat} (hk : k < ps.length - 1 - k) : ((revK ps k).set k (ps.getD (ps.length - 1 - k) zP2)).set (ps.length - 1 - k) (ps.getD k zP2) = revK ps (k + 1) := by
  refine List.ext_getElem? fun t => ?_
  rcases Nat.lt_or_ge t ps.length with h | h
  · rw [revK_at h]
    by_cases c1 : t = ps.length - 1 - k
    · subst c1
      rw [List.getElem?_set_self (by rw [List.length_set, revK_len]; exact h), if_pos (by omega), show ps.length - 1 - (ps.length - 1 - k) = k by omega]
    · rw [List.getElem?_set_ne (fun e => c1 e.symm)]
      by_cases c2 : t = k
      · subst c2
        rw [List.getElem?_set_self (by rw [revK_len]; exact h), if_pos (by omega)]
      · rw [List.getElem?_set_ne (fun e => c2 e.symm), revK_at h]
        by_cases c3 : t < k ∨ ps.length ≤ t + k
        · rw [if_pos c3, if_pos (by omega)]
        · rw [if_neg c3, if_neg (by omega)]
  · rw [List.getElem?_eq_none (by rw [List.length_set, List.length_set, revK_len]; exact h), List.getElem?_eq_none (by rw [revK_len]; exact h)]
def I83 (h0 hb : Heap) (s : SV) (ps : List P2) (E : Env) (h : Heap) : Prop := ∃ (k : Nat) (j : Int), 2 * k ≤ ps.length ∧ j = (ps.length : Int) - 1 - k ∧ OwnD h0 h s (revK ps k) ∧ Ext h0 h ∧ (∀ (i : Nat) (b : Blk), hb[i]? = some b → NotAt s i → h[i]? = some b) ∧
  E.keep [0, 2, 3] = [(0, some (.sc s)), (2, some (.sc (.int .i64 (k : Nat)))), (3, some (.sc (.int .i64 j)))]
def R83 (h0 hb : Heap) (s : SV) (ps : List P2) (ex : Ex) (E : Env) (h : Heap) : Prop := ex = .ex 0 ∧ OwnD h0 h s ps.reverse ∧ Ext h0 h ∧ (∀ (i : Nat) (b : Blk), hb[i]? = some b → NotAt s i → h[i]? = some b)
theorem round83 (h0 hb : Heap) (s : SV) (ps : List P2) (hn : 1 ≤ ps.length ∧ ps.length ≤ 10000000) (E : Env) (h : Heap) (hI : I83 h0 hb s ps E h) :
    wA FT HKt b83L0 (E.keep [0, 2, 3]) h (wRound (I83 h0 hb s ps) (cK [0, 2, 3] ps.length 2) (cK [0, 2, 3] ps.length 2 E h) (R83 h0 hb s ps)) := by
  obtain ⟨k, j, hk, hj, o, x, fr, hE⟩ := hI
  have hm : cK [0, 2, 3] ps.length 2 E h = ps.length - k := by unfold cK; rw [hE]; rfl
  rw [hm, hE]
  by_cases hlt : (k : Int) < j
  · have hkl : k < ps.length - 1 - k := by omega
    have ejn : j.toNat = ps.length - 1 - k := by omega
    have hl := revK_len ps k
    have a1 : (revK ps k)[ps.length - 1 - k]? = some (ps.getD (ps.length - 1 - k) zP2) := by rw [revK_at (by omega), if_neg (by omega)]
    have a2 : (revK ps k)[k]? = some (ps.getD k zP2) := by rw [revK_at (by omega), if_neg (by omega)]
    obtain ⟨id, cap, es, r1⟩ := o.rd a1
    obtain ⟨id2, cap2, es2, r2⟩ := o.rd a2
    rw [es] at es2
    simp only [SV.slc.injEq, true_and] at es2
    obtain ⟨rfl, rfl⟩ := es2
    obtain ⟨id3, cap3, h3, es3, w3, o3, x3, f3, l3⟩ := OwnD.wr x o (i := k) (by omega) (ps.getD (ps.length - 1 - k) zP2).1 (ps.getD (ps.length - 1 - k) zP2).2
    obtain ⟨id4, cap4, h4, es4, w4, o4, x4, f4, l4⟩ := OwnD.wr x3 o3 (i := ps.length - 1 - k) (by rw [List.length_set]; omega) (ps.getD k zP2).1 (ps.getD k zP2).2
    have st := revK_step hkl
    rw [show ((ps.getD (ps.length - 1 - k) zP2).1, (ps.getD (ps.length - 1 - k) zP2).2) = ps.getD (ps.length - 1 - k) zP2 from rfl, show ((ps.getD k zP2).1, (ps.getD k zP2).2) = ps.getD k zP2 from rfl, st] at o4
    rw [es] at es3 es4
    simp only [SV.slc.injEq, true_and] at es3 es4
    obtain ⟨rfl, -⟩ := es3
    obtain ⟨rfl, -⟩ := es4
    rw [hl] at es
    clear st a1 a2
    generalize ps.getD (ps.length - 1 - k) zP2 = X at *
    generalize ps.getD k zP2 = Y at *
    rw [← ejn] at r1 w4
    subst es
    repeat' (first | refine w_seq ?_ | refine w_seqN ?_ | refine w_seqX ?_ | refine w_seqR ?_ | refine w_blk ?_ | refine w_blkN ?_ | refine w_blkX ?_ | refine w_blkR ?_ | refine w_skip ?_ | refine w_ret ?_ | refine w_exit ?_ | refine w_ops ?_ | refine w_opsD ?_ | refine d_one ?_ | refine d_nil ?_ | (refine w_blkY ?_ ?_; rfl) | ((refine i_cond ?_); first | refine w_condT rfl ?_ | refine w_condF rfl ?_) | ((refine i_nil ?_); first | refine d_same ?_ | refine d_ord ?_ | refine d_ext ⟨_, rfl⟩ ?_ | refine d_ext (extA _ _ _) ?_ | refine d_ext (by assumption) ?_ | refine w_end0 ?_ | refine w_end1 rfl ?_ | refine w_end2 rfl rfl ?_ | refine w_end3 rfl rfl rfl ?_ | refine w_end4 rfl rfl rfl rfl ?_ | refine w_end5 rfl rfl rfl rfl rfl ?_ | refine w_end6 rfl rfl rfl rfl rfl rfl ?_ | refine w_end7 rfl rfl rfl rfl rfl rfl rfl ?_ | refine w_end8 rfl rfl rfl rfl rfl rfl rfl rfl ?_ | refine w_end9 rfl rfl rfl rfl rfl rfl rfl rfl rfl ?_ | refine w_end10 rfl rfl rfl rfl rfl rfl rfl rfl rfl rfl ?_ | refine w_end11 rfl rfl rfl rfl rfl rfl rfl rfl rfl rfl rfl ?_ | refine w_end12 rfl rfl rfl rfl rfl rfl rfl rfl rfl rfl rfl rfl ?_ | refine w_end13 rfl rfl rfl rfl rfl rfl rfl rfl rfl rfl rfl rfl rfl ?_ | refine w_end14 rfl rfl rfl rfl rfl rfl rfl rfl rfl rfl rfl rfl rfl rfl ?_ | refine w_end15 rfl rfl rfl rfl rfl rfl rfl rfl rfl rfl rfl rfl rfl rfl rfl ?_ | refine w_end16 rfl rfl rfl rfl rfl rfl rfl rfl rfl rfl rfl rfl rfl rfl rfl rfl ?_) | ((refine i_cons ?_); first | refine k_idxA (esz := 2) (j := j) rfl rfl (by omega) ?_ | refine k_idxA (esz := 2) (j := (k : Int)) rfl rfl (by omega) ?_ | refine k_ldD rfl r1 ?_ | refine k_ldD rfl r2 ?_ | refine k_stD rfl rfl w3 ?_ | refine k_stD rfl rfl w4 ?_ | refine k_skip rfl ?_ | refine k_skipU rfl ?_ | refine k_want rfl ?_ | refine k_mv rfl ?_ | refine k_pickT rfl rfl ?_ | refine k_pickF rfl rfl ?_ | refine k_notT rfl ?_ | refine k_notF rfl ?_ | refine k_add rfl rfl (by omega) ?_ | refine k_sub rfl rfl (by omega) ?_ | refine k_mul rfl rfl (by omega) ?_ | refine k_neg rfl (by omega) ?_ | refine k_quo rfl rfl (by omega) ?_ | refine k_rem rfl rfl (by omega) ?_ | refine k_conv rfl (by omega) ?_ | refine k_max rfl rfl ?_ | refine k_min rfl rfl ?_ | refine k_lssT rfl rfl (by omega) ?_ | refine k_lssF rfl rfl (by omega) ?_ | refine k_lss rfl rfl (fun hc => ?_) (fun hc => ?_) | refine k_leqT rfl rfl (by omega) ?_ | refine k_leqF rfl rfl (by omega) ?_ | refine k_leq rfl rfl (fun hc => ?_) (fun hc => ?_) | refine k_gtrT rfl rfl (by omega) ?_ | refine k_gtrF rfl rfl (by omega) ?_ | refine k_gtr rfl rfl (fun hc => ?_) (fun hc => ?_) | refine k_geqT rfl rfl (by omega) ?_ | refine k_geqF rfl rfl (by omega) ?_ | refine k_geq rfl rfl (fun hc => ?_) (fun hc => ?_) | refine k_eqlT rfl rfl (by omega) ?_ | refine k_eqlF rfl rfl (by omega) ?_ | refine k_eql rfl rfl (fun hc => ?_) (fun hc => ?_) | refine k_neqT rfl rfl (by omega) ?_ | refine k_neqF rfl rfl (by omega) ?_ | refine k_neq rfl rfl (fun hc => ?_) (fun hc => ?_) | refine k_len rfl rfl ?_ | refine k_ok rfl rfl ?_))
    exact w_roundN ⟨k + 1, j - 1, by omega, by omega, o4, x4, fun i b hb hn => (f4 _ _ (f3 _ _ (fr i b hb hn) hn).1 hn).1, rfl⟩ (by simp [cK, Env.keep, Env.get]; omega)
  · rw [revK_end (by omega)] at o
    repeat' (first | refine w_seq ?_ | refine w_seqN ?_ | refine w_seqX ?_ | refine w_seqR ?_ | refine w_blk ?_ | refine w_blkN ?_ | refine w_blkX ?_ | refine w_blkR ?_ | refine w_skip ?_ | refine w_ret ?_ | refine w_exit ?_ | refine w_ops ?_ | refine w_opsD ?_ | refine d_one ?_ | refine d_nil ?_ | (refine w_blkY ?_ ?_; rfl) | ((refine i_cond ?_); first | refine w_condT rfl ?_ | refine w_condF rfl ?_) | ((refine i_nil ?_); first | refine d_same ?_ | refine d_ord ?_ | refine d_ext ⟨_, rfl⟩ ?_ | refine d_ext (extA _ _ _) ?_ | refine d_ext (by assumption) ?_ | refine w_end0 ?_ | refine w_end1 rfl ?_ | refine w_end2 rfl rfl ?_ | refine w_end3 rfl rfl rfl ?_ | refine w_end4 rfl rfl rfl rfl ?_ | refine w_end5 rfl rfl rfl rfl rfl ?_ | refine w_end6 rfl rfl rfl rfl rfl rfl ?_ | refine w_end7 rfl rfl rfl rfl rfl rfl rfl ?_ | refine w_end8 rfl rfl rfl rfl rfl rfl rfl rfl ?_ | refine w_end9 rfl rfl rfl rfl rfl rfl rfl rfl rfl ?_ | refine w_end10 rfl rfl rfl rfl rfl rfl rfl rfl rfl rfl ?_ | refine w_end11 rfl rfl rfl rfl rfl rfl rfl rfl rfl rfl rfl ?_ | refine w_end12 rfl rfl rfl rfl rfl rfl rfl rfl rfl rfl rfl rfl ?_ | refine w_end13 rfl rfl rfl rfl rfl rfl rfl rfl rfl rfl rfl rfl rfl ?_ | refine w_end14 rfl rfl rfl rfl rfl rfl rfl rfl rfl rfl rfl rfl rfl rfl ?_ | refine w_end15 rfl rfl rfl rfl rfl rfl rfl rfl rfl rfl rfl rfl rfl rfl rfl ?_ | refine w_end16 rfl rfl rfl rfl rfl rfl rfl rfl rfl rfl rfl rfl rfl rfl rfl rfl ?_) | ((refine i_cons ?_); first | refine k_skip rfl ?_ | refine k_skipU rfl ?_ | refine k_want rfl ?_ | refine k_mv rfl ?_ | refine k_pickT rfl rfl ?_ | refine k_pickF rfl rfl ?_ | refine k_notT rfl ?_ | refine k_notF rfl ?_ | refine k_add rfl rfl (by omega) ?_ | refine k_sub rfl rfl (by omega) ?_ | refine k_mul rfl rfl (by omega) ?_ | refine k_neg rfl (by omega) ?_ | refine k_quo rfl rfl (by omega) ?_ | refine k_rem rfl rfl (by omega) ?_ | refine k_conv rfl (by omega) ?_ | refine k_max rfl rfl ?_ | refine k_min rfl rfl ?_ | refine k_lssT rfl rfl (by omega) ?_ | refine k_lssF rfl rfl (by omega) ?_ | refine k_lss rfl rfl (fun hc => ?_) (fun hc => ?_) | refine k_leqT rfl rfl (by omega) ?_ | refine k_leqF rfl rfl (by omega) ?_ | refine k_leq rfl rfl (fun hc => ?_) (fun hc => ?_) | refine k_gtrT rfl rfl (by omega) ?_ | refine k_gtrF rfl rfl (by omega) ?_ | refine k_gtr rfl rfl (fun hc => ?_) (fun hc => ?_) | refine k_geqT rfl rfl (by omega) ?_ | refine k_geqF rfl rfl (by omega) ?_ | refine k_geq rfl rfl (fun hc => ?_) (fun hc => ?_) | refine k_eqlT rfl rfl (by omega) ?_ | refine k_eqlF rfl rfl (by omega) ?_ | refine k_eql rfl rfl (fun hc => ?_) (fun hc => ?_) | refine k_neqT rfl rfl (by omega) ?_ | refine k_neqF rfl rfl (by omega) ?_ | refine k_neq rfl rfl (fun hc => ?_) (fun hc => ?_) | refine k_len rfl rfl ?_ | refine k_ok rfl rfl ?_))
    exact w_roundX ⟨rfl, o, x, fr⟩
theorem call83 (h0 h : Heap) (s : SV) (ps : List P2) (hn : 1 ≤ ps.length ∧ ps.length ≤ 10000000) (o : OwnD h0 h s ps) (x : Ext h0 h) :
    ∃ r h', Cal FT HKt 83 [.sc s] h r h' ∧ OwnD h0 h' s ps.reverse ∧ Ext h0 h' ∧ ∀ (i : Nat) (b : Blk), h[i]? = some b → NotAt s i → h'[i]? = some b := by
  refine Cal.of (F := a83) rfl rfl rfl ?_
  have ls := o.len
  have o' : OwnD h0 h s (revK ps 0) := by rw [revK_zero]; exact o
  repeat' (first | refine w_seq ?_ | refine w_seqN ?_ | refine w_seqX ?_ | refine w_seqR ?_ | refine w_blk ?_ | refine w_blkN ?_ | refine w_blkX ?_ | refine w_blkR ?_ | refine w_skip ?_ | refine w_ret ?_ | refine w_exit ?_ | refine w_ops ?_ | refine w_opsD ?_ | refine d_one ?_ | refine d_nil ?_ | (refine w_blkY ?_ ?_; rfl) | ((refine i_cond ?_); first | refine w_condT rfl ?_ | refine w_condF rfl ?_) | ((refine i_nil ?_); first | refine d_same ?_ | refine d_ord ?_ | refine d_ext ⟨_, rfl⟩ ?_ | refine d_ext (extA _ _ _) ?_ | refine d_ext (by assumption) ?_ | refine w_end0 ?_ | refine w_end1 rfl ?_ | refine w_end2 rfl rfl ?_ | refine w_end3 rfl rfl rfl ?_ | refine w_end4 rfl rfl rfl rfl ?_ | refine w_end5 rfl rfl rfl rfl rfl ?_ | refine w_end6 rfl rfl rfl rfl rfl rfl ?_ | refine w_end7 rfl rfl rfl rfl rfl rfl rfl ?_ | refine w_end8 rfl rfl rfl rfl rfl rfl rfl rfl ?_ | refine w_end9 rfl rfl rfl rfl rfl rfl rfl rfl rfl ?_ | refine w_end10 rfl rfl rfl rfl rfl rfl rfl rfl rfl rfl ?_ | refine w_end11 rfl rfl rfl rfl rfl rfl rfl rfl rfl rfl rfl ?_ | refine w_end12 rfl rfl rfl rfl rfl rfl rfl rfl rfl rfl rfl rfl ?_ | refine w_end13 rfl rfl rfl rfl rfl rfl rfl rfl rfl rfl rfl rfl rfl ?_ | refine w_end14 rfl rfl rfl rfl rfl rfl rfl rfl rfl rfl rfl rfl rfl rfl ?_ | refine w_end15 rfl rfl rfl rfl rfl rfl rfl rfl rfl rfl rfl rfl rfl rfl rfl ?_ | refine w_end16 rfl rfl rfl rfl rfl rfl rfl rfl rfl rfl rfl rfl rfl rfl rfl rfl ?_) | ((refine i_cons ?_); first | refine k_len rfl ls ?_ | refine k_skip rfl ?_ | refine k_skipU rfl ?_ | refine k_want rfl ?_ | refine k_mv rfl ?_ | refine k_pickT rfl rfl ?_ | refine k_pickF rfl rfl ?_ | refine k_notT rfl ?_ | refine k_notF rfl ?_ | refine k_add rfl rfl (by omega) ?_ | refine k_sub rfl rfl (by omega) ?_ | refine k_mul rfl rfl (by omega) ?_ | refine k_neg rfl (by omega) ?_ | refine k_quo rfl rfl (by omega) ?_ | refine k_rem rfl rfl (by omega) ?_ | refine k_conv rfl (by omega) ?_ | refine k_max rfl rfl ?_ | refine k_min rfl rfl ?_ | refine k_lssT rfl rfl (by omega) ?_ | refine k_lssF rfl rfl (by omega) ?_ | refine k_lss rfl rfl (fun hc => ?_) (fun hc => ?_) | refine k_leqT rfl rfl (by omega) ?_ | refine k_leqF rfl rfl (by omega) ?_ | refine k_leq rfl rfl (fun hc => ?_) (fun hc => ?_) | refine k_gtrT rfl rfl (by omega) ?_ | refine k_gtrF rfl rfl (by omega) ?_ | refine k_gtr rfl rfl (fun hc => ?_) (fun hc => ?_) | refine k_geqT rfl rfl (by omega) ?_ | refine k_geqF rfl rfl (by omega) ?_ | refine k_geq rfl rfl (fun hc => ?_) (fun hc => ?_) | refine k_eqlT rfl rfl (by omega) ?_ | refine k_eqlF rfl rfl (by omega) ?_ | refine k_eql rfl rfl (fun hc => ?_) (fun hc => ?_) | refine k_neqT rfl rfl (by omega) ?_ | refine k_neqF rfl rfl (by omega) ?_ | refine k_neq rfl rfl (fun hc => ?_) (fun hc => ?_) | refine k_len rfl rfl ?_ | refine k_ok rfl rfl ?_))
  refine w_loop (I83 h0 h s ps) (cK [0, 2, 3] ps.length 2) (R83 h0 h s ps) ⟨0, (ps.length : Int) - 1, Nat.zero_le _, by omega, o', x, fun _ _ hb _ => hb, rfl⟩ (round83 h0 h s ps hn) ?_
  rintro ex E' h3 ⟨rfl, o3, x3, f3⟩
  repeat' (first | refine w_seq ?_ | refine w_seqN ?_ | refine w_seqX ?_ | refine w_seqR ?_ | refine w_blk ?_ | refine w_blkN ?_ | refine w_blkX ?_ | refine w_blkR ?_ | refine w_skip ?_ | refine w_ret ?_ | refine w_exit ?_ | refine w_ops ?_ | refine w_opsD ?_ | refine d_one ?_ | refine d_nil ?_ | (refine w_blkY ?_ ?_; rfl) | ((refine i_cond ?_); first | refine w_condT rfl ?_ | refine w_condF rfl ?_) | ((refine i_nil ?_); first | refine d_same ?_ | refine d_ord ?_ | refine d_ext ⟨_, rfl⟩ ?_ | refine d_ext (extA _ _ _) ?_ | refine d_ext (by assumption) ?_ | refine w_end0 ?_ | refine w_end1 rfl ?_ | refine w_end2 rfl rfl ?_ | refine w_end3 rfl rfl rfl ?_ | refine w_end4 rfl rfl rfl rfl ?_ | refine w_end5 rfl rfl rfl rfl rfl ?_ | refine w_end6 rfl rfl rfl rfl rfl rfl ?_ | refine w_end7 rfl rfl rfl rfl rfl rfl rfl ?_ | refine w_end8 rfl rfl rfl rfl rfl rfl rfl rfl ?_ | refine w_end9 rfl rfl rfl rfl rfl rfl rfl rfl rfl ?_ | refine w_end10 rfl rfl rfl rfl rfl rfl rfl rfl rfl rfl ?_ | refine w_end11 rfl rfl rfl rfl rfl rfl rfl rfl rfl rfl rfl ?_ | refine w_end12 rfl rfl rfl rfl rfl rfl rfl rfl rfl rfl rfl rfl ?_ | refine w_end13 rfl rfl rfl rfl rfl rfl rfl rfl rfl rfl rfl rfl rfl ?_ | refine w_end14 rfl rfl rfl rfl rfl rfl rfl rfl rfl rfl rfl rfl rfl rfl ?_ | refine w_end15 rfl rfl rfl rfl rfl rfl rfl rfl rfl rfl rfl rfl rfl rfl rfl ?_ | refine w_end16 rfl rfl rfl rfl rfl rfl rfl rfl rfl rfl rfl rfl rfl rfl rfl rfl ?_) | ((refine i_cons ?_); first | refine k_skip rfl ?_ | refine k_skipU rfl ?_ | refine k_want rfl ?_ | refine k_mv rfl ?_ | refine k_pickT rfl rfl ?_ | refine k_pickF rfl rfl ?_ | refine k_notT rfl ?_ | refine k_notF rfl ?_ | refine k_add rfl rfl (by omega) ?_ | refine k_sub rfl rfl (by omega) ?_ | refine k_mul rfl rfl (by omega) ?_ | refine k_neg rfl (by omega) ?_ | refine k_quo rfl rfl (by omega) ?_ | refine k_rem rfl rfl (by omega) ?_ | refine k_conv rfl (by omega) ?_ | refine k_max rfl rfl ?_ | refine k_min rfl rfl ?_ | refine k_lssT rfl rfl (by omega) ?_ | refine k_lssF rfl rfl (by omega) ?_ | refine k_lss rfl rfl (fun hc => ?_) (fun hc => ?_) | refine k_leqT rfl rfl (by omega) ?_ | refine k_leqF rfl rfl (by omega) ?_ | refine k_leq rfl rfl (fun hc => ?_) (fun hc => ?_) | refine k_gtrT rfl rfl (by omega) ?_ | refine k_gtrF rfl rfl (by omega) ?_ | refine k_gtr rfl rfl (fun hc => ?_) (fun hc => ?_) | refine k_geqT rfl rfl (by omega) ?_ | refine k_geqF rfl rfl (by omega) ?_ | refine k_geq rfl rfl (fun hc => ?_) (fun hc => ?_) | refine k_eqlT rfl rfl (by omega) ?_ | refine k_eqlF rfl rfl (by omega) ?_ | refine k_eql rfl rfl (fun hc => ?_) (fun hc => ?_) | refine k_neqT rfl rfl (by omega) ?_ | refine k_neqF rfl rfl (by omega) ?_ | refine k_neq rfl rfl (fun hc => ?_) (fun hc => ?_) | refine k_len rfl rfl ?_ | refine k_ok rfl rfl ?_))
  exact ⟨.inl rfl, o3, x3, f3⟩
end Go.Proofs.YtlnjddjobbhcaaaDoor
