/- The products of the terms: contracts. -/
import Derived.Test.YtofknpknogfijaaGreatDoorPE
import Derived.Test.YtofknpknogfijaaGreatDoorW1
import Derived.Test.YtofknpknogfijaaGreatDoorPM
import Derived.Test.YtofknpknogfijaaGreatDoorAb41
namespace Go.Proofs.YtofknpknogfijaaGreatDoor
open Go.Ab
set_option linter.unusedVariables false
set_option linter.unusedSimpArgs false
set_option maxRecDepth 20000
set_option maxHeartbeats 4000000
attribute [local irreducible] wOps wA wSeq wBlk wRound wRoundI wOpsD wOpsS
set_option linter.unusedSectionVars false
variable [HB]

def wdP (v : Int) : P2 := (.int .u64 (v / 18446744073709551616 % 18446744073709551616), .int .u64 (v % 18446744073709551616))
theorem wd_P (v : Int) : wd v = [(wdP v).1, (wdP v).2] := rfl
/-- A cell of one value. -/
def Cel1 (h : Heap) (q : Nat) (a : SV) : Prop := h[q]? = some (.cells [a] true 0)
theorem Cel1.at {h : Heap} {q : Nat} {a : SV} (c : Cel1 h q a) : Blk.At h q [a] := ⟨true, 0, c⟩
theorem Cel1.ext {h h' : Heap} {q : Nat} {a : SV} (c : Cel1 h q a) (he : Ext h h') : Cel1 h' q a := he.get _ _ c
theorem Cel1.fram {h h' : Heap} {q : Nat} {a s s' : SV} (c : Cel1 h q a) (hf : Fram h h' s s') (hn : NotAt s q) : Cel1 h' q a := (hf _ _ c hn).1
/-- The sums, of the terms that were taken. -/
def smL (f : Int → Int) (lo : Int) (n : Nat) : List Int := (List.range n).map fun k : Nat => f (lo + (k : Int))
/-- While the products are added up. -/
structure Sx (h0 hb h : Heap) (S : SV) (q7 q5 : Nat) (lo : Int) (vs : List Int) : Prop where
  e : Ext h0 h
  o : OwnD h0 h S (vs.map wdP)
  b7 : Cel1 h q7 S
  b5 : Cel1 h q5 (.int .i64 lo)
  k : ∀ (j : Nat) (b : Blk), hb[j]? = some b → NotAt S j → h[j]? = some b
def I56i (h0 hb : Heap) (S : SV) (q7 q5 q4 qt : Nat) (lo : Int) (n : Nat) (bb : Bool) (sp sq : SV) (p q : List Tm) (i : Nat) (t : Tm) (E : Env) (h : Heap) : Prop := ∃ j : Nat, j ≤ q.length ∧ Sx h0 hb h S q7 q5 lo (smL (fun e => mc (p.take i) q e + mc [t] (q.take j) e) lo n) ∧ Cel h q4 (.bool bb) sq ∧ Cel h qt (.int .i64 t.1) (.int .i64 t.2) ∧
  E.keep [2, 4, 7, 11, 12, 13, 18, 19, 20] = [(2, some (.sc (.fn 57 [(q7, 0), (q5, 0)]))), (4, some (.sc (.ptr q4 0))), (7, some (.sc (.ptr qt 0))), (11, some (.sc sp)), (12, some (.sc (.int .i64 (p.length : Nat)))), (13, some (.sc (.int .i64 (i : Nat)))), (18, some (.sc sq)), (19, some (.sc (.int .i64 (q.length : Nat)))), (20, some (.sc (.int .i64 (j : Nat))))]
def R56i (h0 hb : Heap) (S : SV) (q7 q5 q4 : Nat) (lo : Int) (n : Nat) (bb : Bool) (sp sq : SV) (p q : List Tm) (i : Nat) (t : Tm) (ex : Ex) (E : Env) (h : Heap) : Prop := ex = .ex 2 ∧ Sx h0 hb h S q7 q5 lo (smL (fun e => mc (p.take i) q e + mc [t] q e) lo n) ∧ Cel h q4 (.bool bb) sq ∧ ∃ a b c d e, 
  E = [(2, some (.sc (.fn 57 [(q7, 0), (q5, 0)]))), (4, some (.sc (.ptr q4 0))), (7, a), (11, some (.sc sp)), (12, some (.sc (.int .i64 (p.length : Nat)))), (13, some (.sc (.int .i64 (i : Nat)))), (18, b), (19, c), (20, d), (21, e)]
/-- A polynomial's terms fit. -/
structure Tfit (ts : List Tm) : Prop where
  len : ts.length ≤ 2097153
  cf : ∀ t ∈ ts, t.2.natAbs ≤ cM
  ex : ∀ t ∈ ts, t.1.natAbs ≤ 4194304
def I56 (h0 hb : Heap) (S : SV) (q7 q5 q4 : Nat) (lo : Int) (n : Nat) (bb : Bool) (sp sq : SV) (p q : List Tm) (E : Env) (h : Heap) : Prop := ∃ i : Nat, i ≤ p.length ∧ Sx h0 hb h S q7 q5 lo (smL (fun e => mc (p.take i) q e) lo n) ∧ Cel h q4 (.bool bb) sq ∧
  E.keep [2, 4, 11, 12, 13] = [(2, some (.sc (.fn 57 [(q7, 0), (q5, 0)]))), (4, some (.sc (.ptr q4 0))), (11, some (.sc sp)), (12, some (.sc (.int .i64 (p.length : Nat)))), (13, some (.sc (.int .i64 (i : Nat))))]
def R56 (h0 hb : Heap) (S : SV) (q7 q5 : Nat) (lo : Int) (n : Nat) (p q : List Tm) (ex : Ex) (E : Env) (h : Heap) : Prop := ex = .ex 0 ∧ Sx h0 hb h S q7 q5 lo (smL (fun e => mc p q e) lo n)
end Go.Proofs.YtofknpknogfijaaGreatDoor


namespace Go.Proofs.YtofknpknogfijaaGreatDoor
open Go.Ab
set_option linter.unusedVariables false
set_option linter.unusedSimpArgs false
set_option maxRecDepth 20000
set_option maxHeartbeats 8000000
attribute [local irreducible] wOps wA wSeq wBlk wRound wRoundI wOpsD wOpsS
set_option linter.unusedSectionVars false
variable [HB]

def smC (x : Int) : Prop := -4611686018427387904 ≤ x ∧ x ≤ 4611686018427387904
def smallP (low : Int) (xs : List Int) : Prop := xs.length ≤ 20 ∧ -100 ≤ low ∧ low ≤ 100 ∧ ∀ x ∈ xs, smC x
def smallQ (low : Int) (xs : List Int) : Prop := xs.length ≤ 20 ∧ -1000 ≤ low ∧ low ≤ 1000 ∧ ∀ x ∈ xs, smC x
theorem smallP.q {low : Int} {xs : List Int} (h : smallP low xs) : smallQ low xs := ⟨h.1, by have := h.2.1; omega, by have := h.2.2.1; omega, h.2.2.2⟩
theorem small_ofP {low : Int} {xs : List Int} (h : smallP low xs) : xs.length ≤ 1000000 ∧ (-9223372036854775808 ≤ low ∧ low ≤ 9223372036854775807) ∧ ∀ x ∈ xs, -9223372036854775808 ≤ x ∧ x ≤ 9223372036854775807 := by
  refine ⟨by have := h.1; omega, by have := h.2.1; have := h.2.2.1; omega, fun x hx => ?_⟩
  have := h.2.2.2 x hx
  unfold smC at this; omega
end Go.Proofs.YtofknpknogfijaaGreatDoor



namespace Go.Proofs.YtofknpknogfijaaGreatDoor
open Go.Ab
set_option linter.unusedVariables false
set_option linter.unusedSimpArgs false
set_option maxRecDepth 20000
set_option maxHeartbeats 4000000
attribute [local irreducible] wOps wA wSeq wBlk wRound wRoundI wOpsD wOpsS
set_option linter.unusedSectionVars false
variable [HB]

theorem call124 (h0 : Heap) (hi lo y : Nat) (hhi : hi < 18446744073709551616) (hlo : lo < 18446744073709551616) (hy : 0 < y ∧ y < 18446744073709551616) :
    ∃ r h', Cal FT HKt 124 [.sc (.int .u64 (hi : Nat)), .sc (.int .u64 (lo : Nat)), .sc (.int .u64 (y : Nat))] h0 r h' ∧ h' = h0 ∧ r = .sc (.int .u64 (((hi * 18446744073709551616 + lo) % y : Nat) : Int)) := by
  refine Cal.of (F := a124) rfl rfl rfl ?_
  have k71 := fun H => call102 H (hi % y) lo y (Nat.mod_lt _ hy.1) hlo hy.2
  have e : (hi % y * 18446744073709551616 + lo) % y = (hi * 18446744073709551616 + lo) % y := by
    rw [Nat.add_mod, Nat.mul_mod, Nat.mod_mod, ← Nat.mul_mod, ← Nat.add_mod]
  rw [e] at k71
  have e2 : (hi : Int) % (y : Int) = ((hi % y : Nat) : Int) := rfl
  repeat' (first | refine w_seq ?_ | refine w_seqN ?_ | refine w_ret ?_ | refine w_ops ?_ | ((refine i_nil ?_); first | refine w_end1 rfl ?_ | refine w_end3 rfl rfl rfl ?_) | ((refine i_cons ?_); first | (refine k_remU rfl rfl (by omega) ?_; rw [e2]) | (refine k_call rfl (k71 _) ?_; rintro r _ ⟨rfl, rfl⟩) | refine k_mv rfl ?_ | refine k_ok rfl rfl ?_))
  exact ⟨.inr rfl, rfl, rfl⟩
end Go.Proofs.YtofknpknogfijaaGreatDoor


/- The value of the terms whose exponents are not negative: contracts. -/
namespace Go.Proofs.YtofknpknogfijaaGreatDoor
open Go.Ab
set_option linter.unusedVariables false
set_option linter.unusedSimpArgs false
set_option maxRecDepth 20000
set_option maxHeartbeats 4000000
attribute [local irreducible] wOps wA wSeq wBlk wRound wRoundI wOpsD wOpsS
set_option linter.unusedSectionVars false
variable [HB]


section
variable {FT : FuncId → Option AFun} {HK : FuncId → Option Hook} {E : Env} {h : Heap} {K : Env → Heap → Prop} {d : Option Nat} {r : List AOp} {x : AO}
theorem k_box1 {v : SV} (hx : ev E x = some (.sc v)) (hw : ∀ h1, Ext h h1 → Cel1 h1 h.length v → wOps FT HK r (bindE d (some (.sc (.ptr h.length 0))) E) h1 K) :
    wOps FT HK (⟨d, .box x, none⟩ :: r) E h K :=
  op_ok (v := some (.sc (.ptr h.length 0))) (h' := h ++ [.cells [v] true 0]) rfl rfl (by simp [step1, hx, AV.cells]) (hw _ ⟨_, rfl⟩ (by simp [Cel1]))
theorem k_st1' {q : Nat} {a v : SV} {p : AO} (ha : evS E p = some (.ptr q 0)) (hx : ev E x = some (.sc v)) (hc : Cel1 h q a) (hw : ∀ h1 : Heap, h1 = h.set q (.cells [v] true 0) → Cel1 h1 q v → wOps FT HK r (bindE d none E) h1 K) :
    wOps FT HK (⟨d, .st 1 p x, none⟩ :: r) E h K := k_st1 ha hx hc hw
end
theorem Cel1.lt {h : Heap} {q : Nat} {a : SV} (c : Cel1 h q a) : q < h.length := (List.getElem?_eq_some_iff.1 c).1
theorem Cel1.set {h : Heap} {q p : Nat} {a : SV} (c : Cel1 h q a) (hn : p ≠ q) (b : Blk) : Cel1 (h.set p b) q a := by
  unfold Cel1 at *
  rw [List.getElem?_set_ne hn]; exact c
theorem drop_cons' {ts : List Tm} {i : Nat} {t : Tm} (h : ts[i]? = some t) : ts.drop i = t :: ts.drop (i + 1) := by
  obtain ⟨hi, rfl⟩ := List.getElem?_eq_some_iff.1 h
  exact List.drop_eq_getElem_cons hi
end Go.Proofs.YtofknpknogfijaaGreatDoor




namespace Go.Proofs.YtofknpknogfijaaGreatDoor
open Go.Ab
set_option linter.unusedVariables false
set_option linter.unusedSimpArgs false
set_option maxRecDepth 20000
set_option maxHeartbeats 4000000
attribute [local irreducible] wOps wA wSeq wBlk wRound wRoundI wOpsD wOpsS
set_option linter.unusedSectionVars false
variable [HB]

abbrev zP2 : P2 := (.nilS, .nilS)
/-- The first k and the last k have changed places. -/
def revK (ps : List P2) (k : Nat) : List P2 := (List.range ps.length).map fun t => if t < k ∨ ps.length ≤ t + k then ps.getD (ps.length - 1 - t) zP2 else ps.getD t zP2
theorem revK_len (ps : List P2) (k : Nat) : (revK ps k).length = ps.length := by simp [revK]
theorem revK_at {ps : List P2} {k t : Nat} (ht : t < ps.length) : (revK ps k)[t]? = some (if t < k ∨ ps.length ≤ t + k then ps.getD (ps.length - 1 - t) zP2 else ps.getD t zP2) := by
  simp [revK, ht]
theorem revK_zero (ps : List P2) : revK ps 0 = ps := by
  refine List.ext_getElem? fun t => ?_
  rcases Nat.lt_or_ge t ps.length with h | h
  · rw [revK_at h, if_neg (by omega)]
    simp [List.getD, h]
  · rw [List.getElem?_eq_none (by rw [revK_len]; exact h), List.getElem?_eq_none h]
theorem revK_end {ps : List P2} {k : Nat} (hk : ps.length ≤ 2 * k + 1) : revK ps k = ps.reverse := by
  refine List.ext_getElem? fun t => ?_
  rcases Nat.lt_or_ge t ps.length with h | h
  · rw [revK_at h, List.getElem?_reverse h]
    have e : ps[ps.length - 1 - t]? = some (ps.getD (ps.length - 1 - t) zP2) := by simp [List.getD, show ps.length - 1 - t < ps.length by omega]
    rw [e]
    by_cases c : t < k ∨ ps.length ≤ t + k
    · rw [if_pos c]
    · rw [if_neg c, show ps.length - 1 - t = t by omega]
  · rw [List.getElem?_eq_none (by rw [revK_len]; exact h), List.getElem?_eq_none (by rw [List.length_reverse]; exact h)]
theorem revK_step {ps : List P2} {k : Nat} (hk : k < ps.length - 1 - k) : ((revK ps k).set k (ps.getD (ps.length - 1 - k) zP2)).set (ps.length - 1 - k) (ps.getD k zP2) = revK ps (k + 1) := by
  refine List.ext_getElem? fun t => ?_
  rcases Nat.lt_or_ge t ps.length with h | h
  · rw [revK_at h]
    by_cases c1 : t = ps.length - 1 - k
    · subst c1
      rw [List.getElem?_set_self (by rw [List.length_set, revK_len]; exact h), if_pos (by omega), show ps.length - 1 - (ps.length - 1 - k) = k by omega]
    · rw [List.getElem?_set_ne (fun e => c1 e.symm)]
      by_cases c2 : t = k
      · subst c2
        rw [List.getElem?_set_self (by rw [revK_len]; exact h), if_pos (by omega)]
      · rw [List.getElem?_set_ne (fun e => c2 e.symm), revK_at h]
        by_cases c3 : t < k ∨ ps.length ≤ t + k
        · rw [if_pos c3, if_pos (by omega)]
        · rw [if_neg c3, if_neg (by omega)]
  · rw [List.getElem?_eq_none (by rw [List.length_set, List.length_set, revK_len]; exact h), List.getElem?_eq_none (by rw [revK_len]; exact h)]
def I92 (h0 hb : Heap) (s : SV) (ps : List P2) (E : Env) (h : Heap) : Prop := ∃ (k : Nat) (j : Int), 2 * k ≤ ps.length ∧ j = (ps.length : Int) - 1 - k ∧ OwnD h0 h s (revK ps k) ∧ Ext h0 h ∧ (∀ (i : Nat) (b : Blk), hb[i]? = some b → NotAt s i → h[i]? = some b) ∧
  E.keep [0, 2, 3] = [(0, some (.sc s)), (2, some (.sc (.int .i64 (k : Nat)))), (3, some (.sc (.int .i64 j)))]
def R92 (h0 hb : Heap) (s : SV) (ps : List P2) (ex : Ex) (E : Env) (h : Heap) : Prop := ex = .ex 0 ∧ OwnD h0 h s ps.reverse ∧ Ext h0 h ∧ (∀ (i : Nat) (b : Blk), hb[i]? = some b → NotAt s i → h[i]? = some b)
theorem round92 (h0 hb : Heap) (s : SV) (ps : List P2) (hn : 1 ≤ ps.length ∧ ps.length ≤ 10000000) (E : Env) (h : Heap) (hI : I92 h0 hb s ps E h) :
    wA FT HKt b92L0 (E.keep [0, 2, 3]) h (wRound (I92 h0 hb s ps) (cK [0, 2, 3] ps.length 2) (cK [0, 2, 3] ps.length 2 E h) (R92 h0 hb s ps)) := by
  obtain ⟨k, j, hk, hj, o, x, fr, hE⟩ := hI
  have hm : cK [0, 2, 3] ps.length 2 E h = ps.length - k := by unfold cK; rw [hE]; rfl
  rw [hm, hE]
  by_cases hlt : (k : Int) < j
  · have hkl : k < ps.length - 1 - k := by omega
    have ejn : j.toNat = ps.length - 1 - k := by omega
    have hl := revK_len ps k
    have a1 : (revK ps k)[ps.length - 1 - k]? = some (ps.getD (ps.length - 1 - k) zP2) := by rw [revK_at (by omega), if_neg (by omega)]
    have a2 : (revK ps k)[k]? = some (ps.getD k zP2) := by rw [revK_at (by omega), if_neg (by omega)]
    obtain ⟨id, cap, es, r1⟩ := o.rd a1
    obtain ⟨id2, cap2, es2, r2⟩ := o.rd a2
    rw [es] at es2
    simp only [SV.slc.injEq, true_and] at es2
    obtain ⟨rfl, rfl⟩ := es2
    obtain ⟨id3, cap3, h3, es3, w3, o3, x3, f3, l3⟩ := OwnD.wr x o (i := k) (by omega) (ps.getD (ps.length - 1 - k) zP2).1 (ps.getD (ps.length - 1 - k) zP2).2
    obtain ⟨id4, cap4, h4, es4, w4, o4, x4, f4, l4⟩ := OwnD.wr x3 o3 (i := ps.length - 1 - k) (by rw [List.length_set]; omega) (ps.getD k zP2).1 (ps.getD k zP2).2
    have st := revK_step hkl
    rw [show ((ps.getD (ps.length - 1 - k) zP2).1, (ps.getD (ps.length - 1 - k) zP2).2) = ps.getD (ps.length - 1 - k) zP2 from rfl, show ((ps.getD k zP2).1, (ps.getD k zP2).2) = ps.getD k zP2 from rfl, st] at o4
    rw [es] at es3 es4
    simp only [SV.slc.injEq, true_and] at es3 es4
    obtain ⟨rfl, -⟩ := es3
    obtain ⟨rfl, -⟩ := es4
    rw [hl] at es
    clear st a1 a2
    generalize ps.getD (ps.length - 1 - k) zP2 = X at *
    generalize ps.getD k zP2 = Y at *
    rw [← ejn] at r1 w4
    subst es
    repeat' (first | refine w_seq ?_ | refine w_seqN ?_ | refine w_blk ?_ | refine w_blkN ?_ | refine w_skip ?_ | refine w_ops ?_ | refine w_opsD ?_ | refine d_one ?_ | refine d_nil ?_ | ((refine i_cond ?_); refine w_condT rfl ?_) | ((refine i_nil ?_); first | refine d_same ?_ | refine d_ord ?_ | refine w_end3 rfl rfl rfl ?_ | refine w_end4 rfl rfl rfl rfl ?_) | ((refine i_cons ?_); first | refine k_idxA (esz := 2) (j := j) rfl rfl (by omega) ?_ | refine k_idxA (esz := 2) (j := (k : Int)) rfl rfl (by omega) ?_ | refine k_ldD rfl r1 ?_ | refine k_ldD rfl r2 ?_ | refine k_stD rfl rfl w3 ?_ | refine k_stD rfl rfl w4 ?_ | refine k_mv rfl ?_ | refine k_add rfl rfl (by omega) ?_ | refine k_sub rfl rfl (by omega) ?_ | refine k_lssT rfl rfl (by omega) ?_))
    exact w_roundN ⟨k + 1, j - 1, by omega, by omega, o4, x4, fun i b hb hn => (f4 _ _ (f3 _ _ (fr i b hb hn) hn).1 hn).1, rfl⟩ (by simp [cK, Env.keep, Env.get]; omega)
  · rw [revK_end (by omega)] at o
    repeat' (first | refine w_seq ?_ | refine w_seqN ?_ | refine w_seqX ?_ | refine w_exit ?_ | refine w_ops ?_ | ((refine i_cond ?_); refine w_condF rfl ?_) | ((refine i_nil ?_); refine w_end4 rfl rfl rfl rfl ?_) | ((refine i_cons ?_); first | refine k_mv rfl ?_ | refine k_lssF rfl rfl (by omega) ?_))
    exact w_roundX ⟨rfl, o, x, fr⟩
theorem call92 (h0 h : Heap) (s : SV) (ps : List P2) (hn : 1 ≤ ps.length ∧ ps.length ≤ 10000000) (o : OwnD h0 h s ps) (x : Ext h0 h) :
    ∃ r h', Cal FT HKt 92 [.sc s] h r h' ∧ OwnD h0 h' s ps.reverse ∧ Ext h0 h' ∧ ∀ (i : Nat) (b : Blk), h[i]? = some b → NotAt s i → h'[i]? = some b := by
  refine Cal.of (F := a92) rfl rfl rfl ?_
  have ls := o.len
  have o' : OwnD h0 h s (revK ps 0) := by rw [revK_zero]; exact o
  repeat' (first | refine w_seq ?_ | refine w_seqN ?_ | refine w_blk ?_ | refine w_ops ?_ | ((refine i_nil ?_); refine w_end3 rfl rfl rfl ?_) | ((refine i_cons ?_); first | refine k_len rfl ls ?_ | refine k_mv rfl ?_ | refine k_sub rfl rfl (by omega) ?_))
  refine w_loop (I92 h0 h s ps) (cK [0, 2, 3] ps.length 2) (R92 h0 h s ps) ⟨0, (ps.length : Int) - 1, Nat.zero_le _, by omega, o', x, fun _ _ hb _ => hb, rfl⟩ (round92 h0 h s ps hn) ?_
  rintro ex E' h3 ⟨rfl, o3, x3, f3⟩
  repeat' (refine w_blkX ?_)
  exact ⟨.inl rfl, o3, x3, f3⟩
end Go.Proofs.YtofknpknogfijaaGreatDoor

