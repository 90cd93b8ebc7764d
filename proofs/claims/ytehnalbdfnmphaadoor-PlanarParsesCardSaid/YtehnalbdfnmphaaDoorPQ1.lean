/- The reference: number, split. -/
import Derived.Test.YtehnalbdfnmphaaDoorP1
namespace Go.Proofs.YtehnalbdfnmphaaDoor
open Go.Ab
set_option linter.unusedVariables false
set_option linter.unusedSimpArgs false
set_option maxRecDepth 20000
set_option maxHeartbeats 4000000
attribute [local irreducible] wOps wA wSeq wBlk wRound wRoundI wOpsD

def I47 (h0 : Heap) (s : List UInt8) (E : Env) (h : Heap) : Prop := h = h0 ∧ ∃ (i : Nat) (v : Int), i ≤ s.length ∧ 0 ≤ v ∧ v + 1 ≤ 10 ^ i ∧ rdN s 0 = rdN (s.drop i) v ∧
  E = [(0, some (.sc (tb s))), (5, some (.sc (.int .i64 v))), (6, some (.sc (.int .i64 (i : Nat))))]
def R47 (h0 : Heap) (s : List UInt8) (ex : Ex) (E : Env) (h : Heap) : Prop := h = h0 ∧ match ex with
  | .rt => rdN s 0 = none ∧ E = [(4, some (.sc (.int .i64 (-1))))]
  | .ex z => z = 0 ∧ ∃ v, rdN s 0 = some v ∧ ∃ x y z, E = [(0, x), (5, some (.sc (.int .i64 v))), (6, y), (28, z)]
  | .nm => False
theorem round47 (h0 : Heap) (s : List UInt8) (hl : s.length ≤ 9) (E : Env) (h : Heap) (hI : I47 h0 s E h) :
    wA FT HKt b47L0 (E.keep [0, 5, 6]) h (wRound (I47 h0 s) (cntV s.length 6) (cntV s.length 6 E h) (R47 h0 s)) := by
  obtain ⟨rfl, i, v, hi, v0, v1, hr, rfl⟩ := hI
  have p9 : (10 : Int) ^ i ≤ 10 ^ 9 := p10 (by omega)
  have e9 : (10 : Int) ^ 9 = 1000000000 := by decide
  by_cases hlt : i < s.length
  · obtain ⟨c, hc⟩ : ∃ c, s[i]? = some c := ⟨_, List.getElem?_eq_getElem hlt⟩
    have hst := rdN_step hc v
    have hc8 : c.toNat < 256 := UInt8.toNat_lt c
    have hc' : ∀ {j : Int}, j = (i : Nat) → s[j.toNat]? = some c := fun hj => by subst hj; rw [Int.toNat_natCast]; exact hc
    by_cases c1 : c.toNat < 48
    · rw [if_pos (.inl c1), ← hr] at hst
      repeat' (first | refine w_seq ?_ | refine w_seqN ?_ | refine w_seqR ?_ | refine w_blk ?_ | refine w_blkR ?_ | refine w_skip ?_ | refine w_ret ?_ | refine w_ops ?_ | ((refine i_cond ?_); refine w_condT rfl ?_) | ((refine i_nil ?_); first | refine w_end1 rfl ?_ | refine w_end4 rfl rfl rfl rfl ?_) | ((refine i_cons ?_); first | refine k_slen rfl ?_ | refine k_sidx rfl rfl (by omega) (hc' (by omega)) ?_ | refine k_skip rfl ?_ | refine k_mv rfl ?_ | refine k_pickT rfl rfl ?_ | refine k_lssT rfl rfl (by omega) ?_))
      exact w_roundR ⟨rfl, hst, rfl⟩
    by_cases c2 : 57 < c.toNat
    · rw [if_pos (.inr c2), ← hr] at hst
      repeat' (first | refine w_seq ?_ | refine w_seqN ?_ | refine w_seqR ?_ | refine w_blk ?_ | refine w_blkR ?_ | refine w_skip ?_ | refine w_ret ?_ | refine w_ops ?_ | ((refine i_cond ?_); refine w_condT rfl ?_) | ((refine i_nil ?_); first | refine w_end1 rfl ?_ | refine w_end4 rfl rfl rfl rfl ?_) | ((refine i_cons ?_); first | refine k_slen rfl ?_ | refine k_sidx rfl rfl (by omega) (hc' (by omega)) ?_ | refine k_want rfl ?_ | refine k_mv rfl ?_ | refine k_pickF rfl rfl ?_ | refine k_lssT rfl rfl (by omega) ?_ | refine k_lssF rfl rfl (by omega) ?_ | refine k_gtrT rfl rfl (by omega) ?_))
      exact w_roundR ⟨rfl, hst, rfl⟩
    rw [if_neg (by omega), ← hr] at hst
    have p1 : (10 : Int) ^ (i + 1) = 10 ^ i * 10 := Int.pow_succ _ _
    rw [show 10 * v + ((c.toNat : Int) - 48) = 10 * v + (c.toNat : Int) - 48 by omega] at hst
    repeat' (first | refine w_seq ?_ | refine w_seqN ?_ | refine w_blk ?_ | refine w_blkN ?_ | refine w_skip ?_ | refine w_ops ?_ | ((refine i_cond ?_); first | refine w_condT rfl ?_ | refine w_condF rfl ?_) | ((refine i_nil ?_); first | refine w_end3 rfl rfl rfl ?_ | refine w_end4 rfl rfl rfl rfl ?_) | ((refine i_cons ?_); first | refine k_slen rfl ?_ | refine k_sidx rfl rfl (by omega) (hc' (by omega)) ?_ | refine k_want rfl ?_ | refine k_mv rfl ?_ | refine k_pickF rfl rfl ?_ | refine k_add rfl rfl (by omega) ?_ | refine k_sub rfl rfl (by omega) ?_ | refine k_mul rfl rfl (by omega) ?_ | refine k_conv rfl (by omega) ?_ | refine k_lssT rfl rfl (by omega) ?_ | refine k_lssF rfl rfl (by omega) ?_ | refine k_gtrF rfl rfl (by omega) ?_))
    exact w_roundN ⟨rfl, i + 1, _, by omega, by omega, by omega, hst, rfl⟩ (by simp [cntV, Env.get]; omega)
  · have : i = s.length := by omega
    subst this
    rw [List.drop_length] at hr
    repeat' (first | refine w_seq ?_ | refine w_seqN ?_ | refine w_seqX ?_ | refine w_exit ?_ | refine w_ops ?_ | ((refine i_cond ?_); refine w_condF rfl ?_) | ((refine i_nil ?_); refine w_end4 rfl rfl rfl rfl ?_) | ((refine i_cons ?_); first | refine k_slen rfl ?_ | refine k_mv rfl ?_ | refine k_lssF rfl rfl (by omega) ?_))
    exact w_roundX ⟨rfl, rfl, v, hr, _, _, _, rfl⟩
theorem call47 (h0 : Heap) (s : List UInt8) (d : Nat) (hd : d ≤ 9) (hl : s.length ≤ 1000000) :
    ∃ v h', Cal FT HKt 47 [.sc (tb s), .sc (.int .i64 (d : Nat))] h0 v h' ∧ h' = h0 ∧ v = .sc (.int .i64 (numB s d)) := by
  refine Cal.of (F := a47) rfl rfl rfl ?_
  by_cases h1 : s = []
  · have hn : numB s d = -1 := by unfold numB; rw [if_pos (.inl h1)]
    rw [hn]
    repeat' (first | refine w_seq ?_ | refine w_seqN ?_ | refine w_seqR ?_ | refine w_ret ?_ | refine w_ops ?_ | ((refine i_cond ?_); refine w_condT rfl ?_) | ((refine i_nil ?_); first | refine w_end1 rfl ?_ | refine w_end2 rfl rfl ?_) | ((refine i_cons ?_); first | refine k_seql rfl (show _ = some (tb []) from rfl) (decide_eq_true h1) ?_ | refine k_skip rfl ?_ | refine k_skipU rfl ?_ | refine k_mv rfl ?_ | refine k_pickT rfl rfl ?_))
    exact ⟨.inr rfl, rfl, rfl⟩
  obtain ⟨c, hc⟩ : ∃ c, s[0]? = some c := by cases s with
    | nil => exact absurd rfl h1
    | cons x r => exact ⟨x, rfl⟩
  have hc' : ∀ {j : Int}, j = ((0 : Nat) : Int) → s[j.toNat]? = some c := fun hj => by subst hj; exact hc
  have hlp : 0 < s.length := List.length_pos_iff.2 h1
  have h48 : s[0]? = some 48 ↔ c.toNat = 48 := by
    rw [hc, Option.some.injEq]
    exact ⟨fun e => by rw [e]; rfl, fun e => UInt8.toNat_inj.1 e⟩
  by_cases h3 : d < s.length
  · have hn : numB s d = -1 := by unfold numB; rw [if_pos (.inr (.inl h3))]
    rw [hn]
    repeat' (first | refine w_seq ?_ | refine w_seqN ?_ | refine w_seqR ?_ | refine w_ret ?_ | refine w_ops ?_ | ((refine i_cond ?_); refine w_condT rfl ?_) | ((refine i_nil ?_); first | refine w_end1 rfl ?_ | refine w_end2 rfl rfl ?_) | ((refine i_cons ?_); first | refine k_seql rfl (show _ = some (tb []) from rfl) (decide_eq_false h1) ?_ | refine k_slen rfl ?_ | refine k_skip rfl ?_ | refine k_skipU rfl ?_ | refine k_want rfl ?_ | refine k_mv rfl ?_ | refine k_pickT rfl rfl ?_ | refine k_pickF rfl rfl ?_ | refine k_gtrT rfl rfl (by omega) ?_))
    exact ⟨.inr rfl, rfl, rfl⟩
  by_cases h2 : c.toNat = 48 ∧ 1 < s.length
  · have hn : numB s d = -1 := by unfold numB; rw [if_pos (.inr (.inr ⟨h48.2 h2.1, h2.2⟩))]
    rw [hn]
    obtain ⟨h2a, h2b⟩ := h2
    repeat' (first | refine w_seq ?_ | refine w_seqN ?_ | refine w_seqR ?_ | refine w_ret ?_ | refine w_ops ?_ | ((refine i_cond ?_); refine w_condT rfl ?_) | ((refine i_nil ?_); first | refine w_end1 rfl ?_ | refine w_end2 rfl rfl ?_) | ((refine i_cons ?_); first | refine k_seql rfl (show _ = some (tb []) from rfl) (decide_eq_false h1) ?_ | refine k_slen rfl ?_ | refine k_sidx rfl rfl (by omega) (hc' (by omega)) ?_ | refine k_want rfl ?_ | refine k_mv rfl ?_ | refine k_pickT rfl rfl ?_ | refine k_pickF rfl rfl ?_ | refine k_gtrT rfl rfl (by omega) ?_ | refine k_gtrF rfl rfl (by omega) ?_ | refine k_eqlT rfl rfl (by omega) ?_))
    exact ⟨.inr rfl, rfl, rfl⟩
  have hn : numB s d = (rdN s 0).getD (-1) := by
    have hh : ¬ (s = [] ∨ d < s.length ∨ (s[0]? = some 48 ∧ 1 < s.length)) := by
      rintro (hh | hh | hh)
      · exact h1 hh
      · exact h3 hh
      · exact h2 ⟨h48.1 hh.1, hh.2⟩
    unfold numB; rw [if_neg hh]
  rw [hn]
  have go : ∀ E : Env, E = [(0, some (.sc (tb s))), (5, some (.sc (.int .i64 0))), (6, some (.sc (.int .i64 0)))] → I47 h0 s E h0 := fun E hE => ⟨rfl, 0, 0, by omega, by omega, by decide, rfl, hE⟩
  by_cases h2a : c.toNat = 48
  · have h2b : ¬ 1 < s.length := fun e => h2 ⟨h2a, e⟩
    repeat' (first | refine w_seq ?_ | refine w_seqN ?_ | refine w_blk ?_ | refine w_skip ?_ | refine w_ops ?_ | ((refine i_cond ?_); refine w_condF rfl ?_) | ((refine i_nil ?_); first | refine w_end2 rfl rfl ?_ | refine w_end3 rfl rfl rfl ?_) | ((refine i_cons ?_); first | refine k_seql rfl (show _ = some (tb []) from rfl) (decide_eq_false h1) ?_ | refine k_slen rfl ?_ | refine k_sidx rfl rfl (by omega) (hc' (by omega)) ?_ | refine k_want rfl ?_ | refine k_mv rfl ?_ | refine k_pickT rfl rfl ?_ | refine k_pickF rfl rfl ?_ | refine k_gtrF rfl rfl (by omega) ?_ | refine k_eqlT rfl rfl (by omega) ?_))
    refine w_loop (I47 h0 s) (cntV s.length 6) (R47 h0 s) (go _ rfl) (round47 h0 s (by omega)) ?_
    rintro ex E' h' hR
    cases ex with
    | nm => exact hR.2.elim
    | rt =>
      obtain ⟨rfl, hno, rfl⟩ := hR
      rw [hno]
      repeat' (first | refine w_seqR ?_ | refine w_blkR ?_)
      exact ⟨.inr rfl, rfl, rfl⟩
    | ex z =>
      obtain ⟨rfl, rfl, v, hv, x, y, z, rfl⟩ := hR
      rw [hv]
      repeat' (first | refine w_seq ?_ | refine w_seqN ?_ | refine w_blkX ?_ | refine w_ret ?_ | refine w_ops ?_ | ((refine i_nil ?_); refine w_end1 rfl ?_) | ((refine i_cons ?_); refine k_mv rfl ?_))
      exact ⟨.inr rfl, rfl, rfl⟩
  · repeat' (first | refine w_seq ?_ | refine w_seqN ?_ | refine w_blk ?_ | refine w_skip ?_ | refine w_ops ?_ | ((refine i_cond ?_); refine w_condF rfl ?_) | ((refine i_nil ?_); first | refine w_end2 rfl rfl ?_ | refine w_end3 rfl rfl rfl ?_) | ((refine i_cons ?_); first | refine k_seql rfl (show _ = some (tb []) from rfl) (decide_eq_false h1) ?_ | refine k_slen rfl ?_ | refine k_sidx rfl rfl (by omega) (hc' (by omega)) ?_ | refine k_skip rfl ?_ | refine k_want rfl ?_ | refine k_mv rfl ?_ | refine k_pickF rfl rfl ?_ | refine k_gtrF rfl rfl (by omega) ?_ | refine k_eqlF rfl rfl (by omega) ?_))
    refine w_loop (I47 h0 s) (cntV s.length 6) (R47 h0 s) (go _ rfl) (round47 h0 s (by omega)) ?_
    rintro ex E' h' hR
    cases ex with
    | nm => exact hR.2.elim
    | rt =>
      obtain ⟨rfl, hno, rfl⟩ := hR
      rw [hno]
      repeat' (first | refine w_seqR ?_ | refine w_blkR ?_)
      exact ⟨.inr rfl, rfl, rfl⟩
    | ex z =>
      obtain ⟨rfl, rfl, v, hv, x, y, z, rfl⟩ := hR
      rw [hv]
      repeat' (first | refine w_seq ?_ | refine w_seqN ?_ | refine w_blkX ?_ | refine w_ret ?_ | refine w_ops ?_ | ((refine i_nil ?_); refine w_end1 rfl ?_) | ((refine i_cons ?_); refine k_mv rfl ?_))
      exact ⟨.inr rfl, rfl, rfl⟩

/-! ### split -/
def I46 (h0 : Heap) (s : List UInt8) (c : UInt8) (E : Env) (h : Heap) : Prop := Ext h0 h ∧ ∃ (f i : Nat) (ws : List (List UInt8)) (o : SV), f ≤ i ∧ i ≤ s.length ∧ ws.length ≤ f ∧ Own h0 h o (ws.map tb) ∧ c ∉ (s.drop f).take (i - f) ∧ spl c s = ws ++ spl c (s.drop f) ∧
  E = [(0, some (.sc (tb s))), (1, some (.sc (.int .u8 (c.toNat : Int)))), (5, some (.sc o)), (6, some (.sc (.int .i64 (f : Nat)))), (7, some (.sc (.int .i64 (i : Nat))))]
def R46 (h0 : Heap) (s : List UInt8) (c : UInt8) (ex : Ex) (E : Env) (h : Heap) : Prop := Ext h0 h ∧ ex = .ex 0 ∧ ∃ (f : Nat) (ws : List (List UInt8)) (o : SV), f ≤ s.length ∧ ws.length ≤ f ∧ Own h0 h o (ws.map tb) ∧ c ∉ s.drop f ∧ spl c s = ws ++ spl c (s.drop f) ∧ ∃ x y z,
  E = [(0, some (.sc (tb s))), (1, x), (5, some (.sc o)), (6, some (.sc (.int .i64 (f : Nat)))), (7, y), (11, z)]
theorem round46 (h0 : Heap) (s : List UInt8) (c : UInt8) (hl : s.length ≤ 100000) (E : Env) (h : Heap) (hI : I46 h0 s c E h) :
    wA FT HKt b46L0 (E.keep [0, 1, 5, 6, 7]) h (wRound (I46 h0 s c) (cntV s.length 7) (cntV s.length 7 E h) (R46 h0 s c)) := by
  obtain ⟨he, f, i, ws, o, hf, hi, hwl, ho, hno, hsp, rfl⟩ := hI
  by_cases hlt : i < s.length
  · obtain ⟨d, hd⟩ : ∃ d, s[i]? = some d := ⟨_, List.getElem?_eq_getElem hlt⟩
    have hd' : ∀ {j : Int}, j = (i : Nat) → s[j.toNat]? = some d := fun hj => by subst hj; rw [Int.toNat_natCast]; exact hd
    have htk : (s.drop f).take (i + 1 - f) = (s.drop f).take (i - f) ++ [d] := by
      rw [show i + 1 - f = (i - f) + 1 by omega, List.take_add_one, List.getElem?_drop, show f + (i - f) = i by omega, hd]; rfl
    by_cases hdc : d = c
    · subst hdc
      have e1 : s.drop f = (s.drop f).take (i - f) ++ d :: s.drop (i + 1) := by
        have h1 := List.take_append_drop (i - f) (s.drop f)
        rw [List.drop_drop, show f + (i - f) = i by omega, List.drop_eq_getElem_cons hlt, (List.getElem?_eq_some_iff.1 hd).2] at h1
        exact h1.symm
      have hsp2 : spl d s = (ws ++ [(s.drop f).take (i - f)]) ++ spl d (s.drop (i + 1)) := by
        rw [hsp]
        conv => lhs; rw [e1, spl_app hno]
        simp
      repeat' (first | refine w_seq ?_ | refine w_seqN ?_ | refine w_blk ?_ | refine w_blkN ?_ | refine w_skip ?_ | refine w_ops ?_ | ((refine i_cond ?_); refine w_condT rfl ?_) | ((refine i_nil ?_); first | refine w_end4 rfl rfl rfl rfl ?_ | refine w_end5 rfl rfl rfl rfl rfl ?_ | refine w_end6 rfl rfl rfl rfl rfl rfl ?_) | ((refine i_cons ?_); first | refine k_slen rfl ?_ | refine k_sidx rfl rfl (by omega) (hd' (by omega)) ?_ | refine k_ssub rfl rfl rfl (by omega) ?_ | (refine k_push he ho rfl rfl (by simp only [List.length_map, bigN]; omega) ?_; intro s' h2 o2 e2 f2) | refine k_mv rfl ?_ | refine k_add rfl rfl (by omega) ?_ | refine k_lssT rfl rfl (by omega) ?_ | refine k_eqlT rfl rfl (by omega) ?_))
      refine w_roundN ⟨e2, i + 1, i + 1, ws ++ [(s.drop f).take (i - f)], s', by omega, by omega, by simp; omega, ?_, by simp, hsp2, rfl⟩ (by simp [cntV, Env.get]; omega)
      simpa using o2
    · have hdn : ¬ ((d.toNat : Int) = (c.toNat : Int)) := fun e => hdc (UInt8.toNat_inj.1 (by omega))
      repeat' (first | refine w_seq ?_ | refine w_seqN ?_ | refine w_blk ?_ | refine w_blkN ?_ | refine w_skip ?_ | refine w_ops ?_ | ((refine i_cond ?_); first | refine w_condT rfl ?_ | refine w_condF rfl ?_) | ((refine i_nil ?_); first | refine w_end5 rfl rfl rfl rfl rfl ?_ | refine w_end6 rfl rfl rfl rfl rfl rfl ?_) | ((refine i_cons ?_); first | refine k_slen rfl ?_ | refine k_sidx rfl rfl (by omega) (hd' (by omega)) ?_ | refine k_mv rfl ?_ | refine k_add rfl rfl (by omega) ?_ | refine k_lssT rfl rfl (by omega) ?_ | refine k_eqlF rfl rfl (by omega) ?_))
      refine w_roundN ⟨he, f, i + 1, ws, o, by omega, by omega, hwl, ho, ?_, hsp, rfl⟩ (by simp [cntV, Env.get]; omega)
      rw [htk, List.mem_append, List.mem_singleton]
      rintro (h | h)
      · exact hno h
      · exact hdc h.symm
  · have : i = s.length := by omega
    subst this
    rw [List.take_of_length_le (by simp)] at hno
    repeat' (first | refine w_seq ?_ | refine w_seqN ?_ | refine w_seqX ?_ | refine w_exit ?_ | refine w_ops ?_ | ((refine i_cond ?_); refine w_condF rfl ?_) | ((refine i_nil ?_); refine w_end6 rfl rfl rfl rfl rfl rfl ?_) | ((refine i_cons ?_); first | refine k_slen rfl ?_ | refine k_mv rfl ?_ | refine k_lssF rfl rfl (by omega) ?_))
    exact w_roundX ⟨he, rfl, f, ws, o, hf, hwl, ho, hno, hsp, _, _, _, rfl⟩
theorem call46 (h0 : Heap) (s : List UInt8) (c : UInt8) (hl : s.length ≤ 100000) : ∃ v h', Cal FT HKt 46 [.sc (tb s), .sc (.int .u8 (c.toNat : Int))] h0 v h' ∧ Ext h0 h' ∧ ∃ u, v = .sc u ∧ Own h0 h' u ((spl c s).map tb) := by
  refine Cal.of (F := a46) rfl rfl rfl ?_
  repeat' (first | refine w_seq ?_ | refine w_seqN ?_ | refine w_blk ?_ | refine w_ops ?_ | ((refine i_nil ?_); first | refine w_end2 rfl rfl ?_ | refine w_end3 rfl rfl rfl ?_ | refine w_end4 rfl rfl rfl rfl ?_ | refine w_end5 rfl rfl rfl rfl rfl ?_) | ((refine i_cons ?_); refine k_mv rfl ?_))
  refine w_loop (I46 h0 s c) (cntV s.length 7) (R46 h0 s c) ⟨Ext.refl _, 0, 0, [], .nilS, by omega, by omega, by simp, .inl ⟨rfl, rfl⟩, by simp, by simp, rfl⟩ (round46 h0 s c hl) ?_
  rintro ex E' h' ⟨he, rfl, f, ws, o, hf, hwl, ho, hno, hsp, x, y, z, rfl⟩
  repeat' (first | refine w_seq ?_ | refine w_seqN ?_ | refine w_blkX ?_ | refine w_ret ?_ | refine w_ops ?_ | ((refine i_nil ?_); refine w_end1 rfl ?_) | ((refine i_cons ?_); first | refine k_sfrom rfl rfl (by omega) ?_ | (refine k_push he ho rfl rfl (by simp only [List.length_map, bigN]; omega) ?_; intro s' h2 o2 e2 f2) | refine k_mv rfl ?_))
  refine ⟨.inr rfl, e2, s', rfl, ?_⟩
  rw [hsp, spl_no hno]
  simpa using o2
end Go.Proofs.YtehnalbdfnmphaaDoor
