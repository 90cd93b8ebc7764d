/- The reference's All; Ints and Equal: contracts. -/
import Derived.Test.YtooafhbjbpaacaaD2
import Derived.Test.YtooafhbjbpaacaaD4
import Derived.Test.YtooafhbjbpaacaaAb38
namespace Go.Proofs.Ytooafhbjbpaacaa
open Go.Ab
set_option linter.unusedVariables false
set_option linter.unusedSimpArgs false
set_option maxRecDepth 20000
set_option maxHeartbeats 4000000
attribute [local irreducible] wOps wA wSeq wBlk wRound wRoundI wOpsD wOpsS
variable {HK : FuncId → Option Hook}

section
variable {FT : FuncId → Option AFun} {E : Env} {h : Heap} {K : Env → Heap → Prop} {d : Option Nat} {r : List AOp} {x : AO}
theorem k_cvu {m : Int} (hx : evS E x = some (.int .i64 m)) (hr : 0 ≤ m ∧ m ≤ 9223372036854775807) (hw : wOps FT HK r (bindE d (some (.sc (.int .u64 m))) E) h K) : wOps FT HK (⟨d, .conv .u64 x, none⟩ :: r) E h K := by
  refine op_ok (v := some (.sc (wrapI .u64 m))) (h' := h) rfl rfl (by simp only [step1, hx]) ?_
  have : IntKind.u64.wrap m = m := by
    simp only [IntKind.wrap]
    show (if IntKind.u64.signed = true then _ else _) = _
    simp [IntKind.signed, IntKind.bits]
    omega
  rw [wrapI, this]; exact hw
end
theorem shl14 {k : Nat} (hk : k ≤ 14) {b : Int} (hb : b = k) : IntKind.i64.wrap (1 * 2 ^ (min b.toNat IntKind.i64.bits)) = ((2 ^ k : Nat) : Int) := by
  subst hb
  rw [Int.toNat_natCast]
  have h : ∀ k : Fin 15, IntKind.i64.wrap (1 * 2 ^ (min k.val IntKind.i64.bits)) = ((2 ^ k.val : Nat) : Int) := by decide +kernel
  exact h ⟨k, by omega⟩
theorem shr14 {x k : Nat} (hk : k ≤ 14) {b : Int} (hb2 : b = k) : ((x : Nat) : Int).fdiv (2 ^ (min b.toNat IntKind.i64.bits)) = ((x / 2 ^ k : Nat) : Int) := by
  subst hb2
  have h64 : IntKind.i64.bits = 64 := rfl
  rw [Int.toNat_natCast, Nat.min_eq_left (by omega)]
  have h2 : (2 : Int) ^ k = ((2 ^ k : Nat) : Int) := by simp
  rw [h2, Int.fdiv_eq_ediv_of_nonneg _ (Int.natCast_nonneg _)]
  exact (Int.natCast_ediv x (2 ^ k)).symm
/-! ### A list of lists -/
def Al (h0 h : Heap) (X : SV) (qs : List (List Int)) : Prop := ∃ ss : List SV, ss.length = qs.length ∧ Own h0 h X ss ∧ ∀ (j : Nat) (t : SV) (q : List Int), ss[j]? = some t → qs[j]? = some q → IsInts h t q ∧ Ab.Apart X t
theorem Al.ext {h0 h h' : Heap} {X : SV} {qs : List (List Int)} (a : Al h0 h X qs) (e : Ext h h') : Al h0 h' X qs := by
  obtain ⟨ss, h1, h2, h3⟩ := a
  exact ⟨ss, h1, h2.ext e, fun j t q hj hq => ⟨IsSl.ext (h3 j t q hj hq).1 e, (h3 j t q hj hq).2⟩⟩
theorem Al.push {h0 h h' : Heap} {X X' u : SV} {qs : List (List Int)} {q : List Int} {ss : List SV} (h1 : ss.length = qs.length) (h3 : ∀ (j : Nat) (t : SV) (q : List Int), ss[j]? = some t → qs[j]? = some q → IsInts h t q ∧ Ab.Apart X t) (hu : IsInts h u q) (ha : Ab.Apart X u) (ho : Own h0 h' X' (ss ++ [u])) (hf : Fram h h' X X') : Al h0 h' X' (qs ++ [q]) := by
  refine ⟨ss ++ [u], by simp [h1], ho, fun j t z hj hz => ?_⟩
  by_cases hl : j < ss.length
  · rw [List.getElem?_append_left hl] at hj
    rw [List.getElem?_append_left (by omega)] at hz
    obtain ⟨a, b⟩ := h3 j t z hj hz
    exact ⟨IsSl.away a hf b, Fram.apart hf a b⟩
  · rw [List.getElem?_append_right (by omega)] at hj
    rw [List.getElem?_append_right (by omega)] at hz
    have e : j - ss.length = 0 := by
      have := (List.getElem?_eq_some_iff.1 hj).1
      simp at this; omega
    rw [e] at hj
    rw [← h1, e] at hz
    simp at hj hz
    subst hj hz
    exact ⟨IsSl.away hu hf ha, Fram.apart hf hu ha⟩
/-! ### The signs of a number -/
def I20i (h0 : Heap) (o X : SV) (n b : Nat) (E : Env) (h : Heap) : Prop := ∃ (i : Nat) (u : SV), i ≤ n ∧ Ext h0 h ∧ Own h0 h u (ints ((sgL n b).take i)) ∧
  E = [(0, some (.sc o)), (3, some (.sc (.int .i64 (n : Nat)))), (4, some (.sc X)), (5, some (.sc (.int .i64 (b : Nat)))), (6, some (.sc u)), (7, some (.sc (.int .i64 (i : Nat))))]
def R20i (h0 : Heap) (o X : SV) (n b : Nat) (ex : Ex) (E : Env) (h : Heap) : Prop := ex = .ex 2 ∧ Ext h0 h ∧ ∃ u a c, Own h0 h u (ints (sgL n b)) ∧
  E = [(0, some (.sc o)), (3, some (.sc (.int .i64 (n : Nat)))), (4, some (.sc X)), (5, some (.sc (.int .i64 (b : Nat)))), (6, some (.sc u)), (7, a), (19, c)]
theorem round20i (h0 : Heap) (o X : SV) (n b : Nat) (hn : n ≤ 14) (hb : b ≤ 100000) (E : Env) (h : Heap) (hI : I20i h0 o X n b E h) :
    wA FT HK b20L1 (E.keep [0, 3, 4, 5, 6, 7]) h (wRound (I20i h0 o X n b) (cntD n 7) (cntD n 7 E h) (R20i h0 o X n b)) := by
  obtain ⟨i, u, hi, e, ow, rfl⟩ := hI
  have hll : (sgL n b).length = n := by simp [sgL]
  by_cases hlt : i < n
  · have hx : (sgL n b)[i]? = some (sgB n b i) := by simp [sgL, hlt]
    have en := take_snoc hx
    have hs := shr14 (x := b) (k := n - 1 - i) (by omega) (b := (n : Int) - 1 - (i : Int)) (by omega)
    have hvl : (ints ((sgL n b).take i)).length = i := by simp [ints, hll]; omega
    have hq : ((b / 2 ^ (n - 1 - i) : Nat) : Int) % 2 = ((b / 2 ^ (n - 1 - i) % 2 : Nat) : Int) := by omega
    by_cases hz : b / 2 ^ (n - 1 - i) % 2 = 0
    · have hB : sgB n b i = 1 := by unfold sgB; rw [if_pos hz]
      rw [hB] at en
      rw [hz] at hq
      generalize b / 2 ^ (n - 1 - i) = y at *
      repeat' (first | refine w_seq ?_ | refine w_seqN ?_ | refine w_blk ?_ | refine w_blkN ?_ | refine w_skip ?_ | refine w_ops ?_ | ((refine i_cond ?_); refine w_condT rfl ?_) | ((refine i_nil ?_); first | refine w_end6 rfl rfl rfl rfl rfl rfl ?_ | refine w_end7 rfl rfl rfl rfl rfl rfl rfl ?_) | ((refine i_cons ?_); first | (refine k_cvu rfl (by omega) ?_) | refine k_shr rfl rfl (by omega) hs ?_ | (refine k_push e ow rfl rfl (by rw [hvl]; simp only [bigN]; omega) ?_; intro u' h1 o1 e1 f1) | refine k_mv rfl ?_ | refine k_add rfl rfl (by omega) ?_ | refine k_sub rfl rfl (by omega) ?_ | refine k_rem rfl rfl (by omega) ?_ | refine k_lssT rfl rfl (by omega) ?_ | refine k_eqlT rfl rfl (by omega) ?_))
      exact w_roundN ⟨i + 1, u', by omega, e1, by rw [en]; simpa [ints] using o1, rfl⟩ (by simp [cntD, Env.get]; omega)
    · have hB : sgB n b i = -1 := by unfold sgB; rw [if_neg hz]
      rw [hB] at en
      have hz1 : b / 2 ^ (n - 1 - i) % 2 = 1 := by omega
      rw [hz1] at hq
      generalize b / 2 ^ (n - 1 - i) = y at *
      repeat' (first | refine w_seq ?_ | refine w_seqN ?_ | refine w_blk ?_ | refine w_blkN ?_ | refine w_skip ?_ | refine w_ops ?_ | ((refine i_cond ?_); first | refine w_condT rfl ?_ | refine w_condF rfl ?_) | ((refine i_nil ?_); first | refine w_end6 rfl rfl rfl rfl rfl rfl ?_ | refine w_end7 rfl rfl rfl rfl rfl rfl rfl ?_) | ((refine i_cons ?_); first | (refine k_cvu rfl (by omega) ?_) | refine k_shr rfl rfl (by omega) hs ?_ | (refine k_push e ow rfl rfl (by rw [hvl]; simp only [bigN]; omega) ?_; intro u' h1 o1 e1 f1) | refine k_mv rfl ?_ | refine k_add rfl rfl (by omega) ?_ | refine k_sub rfl rfl (by omega) ?_ | refine k_rem rfl rfl (by omega) ?_ | refine k_lssT rfl rfl (by omega) ?_ | refine k_eqlF rfl rfl (by omega) ?_))
      exact w_roundN ⟨i + 1, u', by omega, e1, by rw [en]; simpa [ints] using o1, rfl⟩ (by simp [cntD, Env.get]; omega)
  · have : i = n := by omega
    subst this
    rw [List.take_of_length_le (by omega)] at ow
    repeat' (first | refine w_seq ?_ | refine w_seqN ?_ | refine w_seqX ?_ | refine w_exit ?_ | refine w_ops ?_ | ((refine i_cond ?_); refine w_condF rfl ?_) | ((refine i_nil ?_); refine w_end7 rfl rfl rfl rfl rfl rfl rfl ?_) | ((refine i_cons ?_); first | refine k_mv rfl ?_ | refine k_lssF rfl rfl (by omega) ?_))
    exact w_roundX ⟨rfl, e, u, _, _, ow, rfl⟩
/-! ### All -/
theorem bfalse {b : Bool} {P : Prop} (h : b = true ↔ P) (hp : ¬ P) : b = false := by
  cases b with
  | false => rfl
  | true => exact absurd (h.1 rfl) hp
def I20o (h0 : Heap) (o : SV) (vs : List Int) (E : Env) (h : Heap) : Prop := ∃ (b : Nat) (X : SV), b ≤ 2 ^ vs.length ∧ Ext h0 h ∧ Al h0 h X (oksD (Pd vs) ((List.range b).map (sgL vs.length))) ∧
  E = [(0, some (.sc o)), (3, some (.sc (.int .i64 (vs.length : Nat)))), (4, some (.sc X)), (5, some (.sc (.int .i64 (b : Nat))))]
def R20o (h0 : Heap) (vs : List Int) (ex : Ex) (E : Env) (h : Heap) : Prop := ex = .ex 0 ∧ Ext h0 h ∧ ∃ X a b c d, Al h0 h X (oksD (Pd vs) (cands [] vs.length)) ∧
  E = [(0, a), (3, b), (4, some (.sc X)), (5, c), (14, d)]
theorem oks_next {P : List Int → Prop} {n b : Nat} : oksD P ((List.range (b + 1)).map (sgL n)) = oksD P ((List.range b).map (sgL n)) ++ (open Classical in if P (sgL n b) then [sgL n b] else []) := by
  unfold oksD
  rw [List.range_succ, List.map_append, List.filter_append]
  congr 1
  by_cases h : P (sgL n b)
  · rw [if_pos h]; simp [h]
  · rw [if_neg h]; simp [h]
theorem round20o (hk35 : HK 35 = none) (hk22 : HK 22 = none) (hk12 : HK 12 = none) (hk29 : HK 29 = none) (hk30 : HK 30 = none) (hk31 : HK 31 = none) (hk43 : HK 43 = none) (hk49 : HK 49 = none) (h0 : Heap) (o : SV) (vs : List Int) (hg : Good vs) (h14 : vs.length ≤ 14) (ho : IsInts h0 o vs) (E : Env) (h : Heap) (hI : I20o h0 o vs E h) :
    wA FT HK b20L0 (E.keep [0, 3, 4, 5]) h (wRound (I20o h0 o vs) (cntD (2 ^ vs.length) 5) (cntD (2 ^ vs.length) 5 E h) (R20o h0 vs)) := by
  obtain ⟨b, X, hb, e, al, rfl⟩ := hI
  have hp : 2 ^ vs.length ≤ 2 ^ 14 := Nat.pow_le_pow_right (by omega) h14
  have hs := shl14 (k := vs.length) h14 (b := (vs.length : Int)) rfl
  have hbig : b ≤ 16384 := Nat.le_trans hb hp
  have hpb : (2 ^ vs.length : Nat) ≤ 16384 := hp
  generalize hT : (2 ^ vs.length : Nat) = T at *
  by_cases hlt : b < T
  · repeat' (first | refine w_seq ?_ | refine w_seqN ?_ | refine w_blk ?_ | refine w_skip ?_ | refine w_ops ?_ | ((refine i_cond ?_); refine w_condT rfl ?_) | ((refine i_nil ?_); first | refine w_end5 rfl rfl rfl rfl rfl ?_ | refine w_end6 rfl rfl rfl rfl rfl rfl ?_) | ((refine i_cons ?_); first | (refine k_cvu rfl (by omega) ?_) | refine k_shl rfl rfl (by omega) hs ?_ | refine k_mv rfl ?_ | refine k_lssT rfl rfl (by omega) ?_))
    refine w_loop (I20i h o X vs.length b) (cntD vs.length 7) (R20i h o X vs.length b) ⟨0, .nilS, Nat.zero_le _, Ext.refl _, .inl ⟨rfl, rfl⟩, rfl⟩ (round20i h o X vs.length b h14 (by omega)) ?_
    rintro ex E' h1 ⟨rfl, e1, u, a, c, o1, rfl⟩
    have hll : (sgL vs.length b).length = vs.length := by simp [sgL]
    have iu : IsInts h1 u (sgL vs.length b) := Ab.Own.ids (xs := sgL vs.length b) o1
    have k22 := call22 hk22 hk35 h1 o u vs (sgL vs.length b) hg hll (IsSl.ext ho (e.trans e1)) iu
    have alE := al.ext e1
    by_cases hP : Pd vs (sgL vs.length b)
    · repeat' (first | refine w_seq ?_ | refine w_seqN ?_ | refine w_blkN ?_ | refine w_blkX ?_ | refine w_ops ?_ | ((refine i_cond ?_); refine w_condT rfl ?_) | ((refine i_nil ?_); first | refine w_end4 rfl rfl rfl rfl ?_ | refine w_end6 rfl rfl rfl rfl rfl rfl ?_) | ((refine i_cons ?_); first | (refine k_call rfl k22 ?_; rintro v h2 ⟨e2, t, m, rfl, it, im⟩; have k12 := call12 hk12 hk29 hk30 hk31 hk43 hk49 h2 t m 0 _ _ it im) | (refine k_call rfl k12 ?_; rintro v h3 ⟨e3, bb, rfl, hq⟩; obtain rfl := hq.2 hP; obtain ⟨ss, x1, x2, x3⟩ := alE.ext (e2.trans e3); have hsl : ss.length ≤ 16384 := Nat.le_trans (Nat.le_of_eq x1) (Nat.le_trans (List.length_filter_le _ _) (by simp; omega))) | (refine k_push (e.trans (e1.trans (e2.trans e3))) x2 rfl rfl (by simp only [bigN]; omega) ?_; intro X' h4 o4 e4 f4) | refine k_mv rfl ?_ | refine k_add rfl rfl (by omega) ?_))
      have ap : Ab.Apart X u := by
        obtain ⟨ss', y1, y2, y3⟩ := al
        exact apart_newD y2 (own_fshD o1)
      have al4 := Al.push x1 x3 (IsSl.ext iu (e2.trans e3)) ap o4 f4
      refine w_roundN ⟨b + 1, X', by omega, e4, ?_, rfl⟩ (by simp [cntD, Env.get]; omega)
      rw [oks_next, if_pos hP]; exact al4
    · repeat' (first | refine w_seq ?_ | refine w_seqN ?_ | refine w_blkN ?_ | refine w_blkX ?_ | refine w_skip ?_ | refine w_ops ?_ | ((refine i_cond ?_); refine w_condF rfl ?_) | ((refine i_nil ?_); first | refine w_end4 rfl rfl rfl rfl ?_ | refine w_end6 rfl rfl rfl rfl rfl rfl ?_) | ((refine i_cons ?_); first | (refine k_call rfl k22 ?_; rintro v h2 ⟨e2, t, m, rfl, it, im⟩; have k12 := call12 hk12 hk29 hk30 hk31 hk43 hk49 h2 t m 0 _ _ it im) | (refine k_call rfl k12 ?_; rintro v h3 ⟨e3, bb, rfl, hq⟩; obtain rfl := bfalse hq hP) | refine k_mv rfl ?_ | refine k_add rfl rfl (by omega) ?_))
      refine w_roundN ⟨b + 1, X, by omega, e.trans (e1.trans (e2.trans e3)), ?_, rfl⟩ (by simp [cntD, Env.get]; omega)
      rw [oks_next, if_neg hP, List.append_nil]; exact alE.ext (e2.trans e3)
  · have hbT : b = T := by omega
    subst hbT
    have hc : (List.range b).map (sgL vs.length) = cands [] vs.length := by rw [cands_bits, hT]; simp
    rw [hc] at al
    repeat' (first | refine w_seq ?_ | refine w_seqN ?_ | refine w_seqX ?_ | refine w_exit ?_ | refine w_ops ?_ | ((refine i_cond ?_); refine w_condF rfl ?_) | ((refine i_nil ?_); refine w_end5 rfl rfl rfl rfl rfl ?_) | ((refine i_cons ?_); first | (refine k_cvu rfl (by omega) ?_) | refine k_shl rfl rfl (by omega) hs ?_ | refine k_mv rfl ?_ | refine k_lssF rfl rfl (by omega) ?_))
    exact w_roundX ⟨rfl, e, X, _, _, _, _, al, rfl⟩
theorem call20 (hk20 : HK 20 = none) (hk35 : HK 35 = none) (hk22 : HK 22 = none) (hk12 : HK 12 = none) (hk29 : HK 29 = none) (hk30 : HK 30 = none) (hk31 : HK 31 = none) (hk43 : HK 43 = none) (hk49 : HK 49 = none) (h0 : Heap) (o : SV) (vs : List Int) (hg : Good vs) (h14 : vs.length ≤ 14) (ho : IsInts h0 o vs) :
    ∃ v h', Cal FT HK 20 [.sc o] h0 v h' ∧ Ext h0 h' ∧ ∃ X, v = .sc X ∧ Al h0 h' X (oksD (Pd vs) (cands [] vs.length)) := by
  refine Cal.of (F := a20) hk20 rfl rfl ?_
  have lo := IsSl.len ho
  repeat' (first | refine w_seq ?_ | refine w_seqN ?_ | refine w_blk ?_ | refine w_ops ?_ | ((refine i_nil ?_); first | refine w_end1 rfl ?_ | refine w_end2 rfl rfl ?_ | refine w_end3 rfl rfl rfl ?_ | refine w_end4 rfl rfl rfl rfl ?_) | ((refine i_cons ?_); first | refine k_len rfl lo ?_ | refine k_mv rfl ?_))
  refine w_loop (I20o h0 o vs) (cntD (2 ^ vs.length) 5) (R20o h0 vs) ⟨0, .nilS, Nat.zero_le _, Ext.refl _, ⟨[], by simp [oksD], .inl ⟨rfl, rfl⟩, by simp⟩, rfl⟩ (round20o hk35 hk22 hk12 hk29 hk30 hk31 hk43 hk49 h0 o vs hg h14 ho) ?_
  rintro ex E' h1 ⟨rfl, e1, X, a, b, c, d, al, rfl⟩
  repeat' (first | refine w_seq ?_ | refine w_seqN ?_ | refine w_blkX ?_ | refine w_ret ?_ | refine w_ops ?_ | ((refine i_nil ?_); refine w_end1 rfl ?_) | ((refine i_cons ?_); refine k_mv rfl ?_))
  exact ⟨.inr rfl, e1, X, rfl, al⟩
end Go.Proofs.Ytooafhbjbpaacaa
