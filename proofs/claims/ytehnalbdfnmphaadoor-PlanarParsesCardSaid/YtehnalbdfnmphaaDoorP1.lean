/- Planar codes: numbers, prefixes. -/
import Derived.Test.YtehnalbdfnmphaaDoorPP1
import Derived.Test.YtehnalbdfnmphaaDoorF3
namespace Go.Proofs.YtehnalbdfnmphaaDoor
open Go.Ab
set_option linter.unusedVariables false
set_option linter.unusedSimpArgs false
set_option maxRecDepth 20000
set_option maxHeartbeats 4000000
attribute [local irreducible] wOps wA wSeq wBlk wRound wRoundI wOpsD

/-- What is known while a planar code is read. -/
noncomputable def HKp : FuncId → Option Hook := fun f => if f = 22 then none else HKt f
theorem cut_callP {h : Heap} (s sep : List UInt8) (hl : s.length ≤ 1000000) : ∃ v h', Cal FT HKp 64 [.sc (tb s), .sc (tb sep)] h v h' ∧ h' = h ∧ v = .tup [.sc (tb (Lib.cut s sep).1), .sc (tb (Lib.cut s sep).2.1), .sc (.bool (Lib.cut s sep).2.2)] :=
  ⟨_, _, Cal.hook (g := cutHook) rfl (by simp only [cutHook, tb, tb_size]; rw [if_pos (by omega)]), rfl, rfl⟩

theorem rdN_step {s : List UInt8} {i : Nat} {c : UInt8} (hc : s[i]? = some c) (v : Int) : rdN (s.drop i) v = if c.toNat < 48 ∨ 57 < c.toNat then none else rdN (s.drop (i + 1)) (10 * v + ((c.toNat : Int) - 48)) := by
  obtain ⟨h1, h2⟩ := List.getElem?_eq_some_iff.1 hc
  rw [List.drop_eq_getElem_cons h1, h2]
  rfl
def I66 (h0 : Heap) (s : List UInt8) (a b : Int) (E : Env) (h : Heap) : Prop := h = h0 ∧ ∃ (i : Nat) (v : Int), i ≤ s.length ∧ 0 ≤ v ∧ v + 1 ≤ 10 ^ i ∧ rdN s 0 = rdN (s.drop i) v ∧
  E = [(0, some (.sc (tb s))), (1, some (.sc (.int .i64 a))), (2, some (.sc (.int .i64 b))), (8, some (.sc (.int .i64 v))), (28, some (.sc (.int .i64 (s.length : Int)))), (29, some (.sc (.int .i64 (i : Nat))))]
def R66 (h0 : Heap) (s : List UInt8) (a b : Int) (ex : Ex) (E : Env) (h : Heap) : Prop := h = h0 ∧ match ex with
  | .rt => rdN s 0 = none ∧ E = [(6, some (.sc (.int .i64 0))), (7, some (.sc (.bool false)))]
  | .ex z => z = 0 ∧ ∃ v, rdN s 0 = some v ∧ ∃ x y z, E = [(0, x), (1, some (.sc (.int .i64 a))), (2, some (.sc (.int .i64 b))), (8, some (.sc (.int .i64 v))), (28, y), (29, z), (30, some (.sc (.bool false)))]
  | .nm => False
theorem round66 (h0 : Heap) (s : List UInt8) (a b : Int) (hl : s.length ≤ 9) (E : Env) (h : Heap) (hI : I66 h0 s a b E h) :
    wA FT HKp b66L0 (E.keep [0, 1, 2, 8, 28, 29]) h (wRound (I66 h0 s a b) (cntV s.length 29) (cntV s.length 29 E h) (R66 h0 s a b)) := by
  obtain ⟨rfl, i, v, hi, v0, v1, hr, rfl⟩ := hI
  have p9 : (10 : Int) ^ i ≤ 10 ^ 9 := p10 (by omega)
  have e9 : (10 : Int) ^ 9 = 1000000000 := by decide
  by_cases hlt : i < s.length
  · obtain ⟨c, hc⟩ : ∃ c, s[i]? = some c := ⟨_, List.getElem?_eq_getElem hlt⟩
    have hst := rdN_step hc v
    have hc8 : c.toNat < 256 := UInt8.toNat_lt c
    have hc' : ∀ {j : Int}, j = (i : Nat) → s[j.toNat]? = some c := fun hj => by subst hj; rw [Int.toNat_natCast]; exact hc
    by_cases c1 : c.toNat < 48
    · rw [if_pos (.inl c1), ← hr] at hst
      repeat' (first | refine w_seq ?_ | refine w_seqN ?_ | refine w_seqR ?_ | refine w_blk ?_ | refine w_blkR ?_ | refine w_skip ?_ | refine w_ret ?_ | refine w_ops ?_ | ((refine i_cond ?_); refine w_condT rfl ?_) | ((refine i_nil ?_); first | refine w_end2 rfl rfl ?_ | refine w_end7 rfl rfl rfl rfl rfl rfl rfl ?_ | refine w_end8 rfl rfl rfl rfl rfl rfl rfl rfl ?_) | ((refine i_cons ?_); first | refine k_sidx rfl rfl (by omega) (hc' (by omega)) ?_ | refine k_skip rfl ?_ | refine k_mv rfl ?_ | refine k_pickT rfl rfl ?_ | refine k_lssT rfl rfl (by omega) ?_))
      exact w_roundR ⟨rfl, hst, rfl⟩
    by_cases c2 : 57 < c.toNat
    · rw [if_pos (.inr c2), ← hr] at hst
      repeat' (first | refine w_seq ?_ | refine w_seqN ?_ | refine w_seqR ?_ | refine w_blk ?_ | refine w_blkR ?_ | refine w_skip ?_ | refine w_ret ?_ | refine w_ops ?_ | ((refine i_cond ?_); refine w_condT rfl ?_) | ((refine i_nil ?_); first | refine w_end2 rfl rfl ?_ | refine w_end7 rfl rfl rfl rfl rfl rfl rfl ?_ | refine w_end8 rfl rfl rfl rfl rfl rfl rfl rfl ?_) | ((refine i_cons ?_); first | refine k_sidx rfl rfl (by omega) (hc' (by omega)) ?_ | refine k_want rfl ?_ | refine k_mv rfl ?_ | refine k_pickF rfl rfl ?_ | refine k_lssT rfl rfl (by omega) ?_ | refine k_lssF rfl rfl (by omega) ?_ | refine k_gtrT rfl rfl (by omega) ?_))
      exact w_roundR ⟨rfl, hst, rfl⟩
    rw [if_neg (by omega), ← hr] at hst
    have p1 : (10 : Int) ^ (i + 1) = 10 ^ i * 10 := Int.pow_succ _ _
    repeat' (first | refine w_seq ?_ | refine w_seqN ?_ | refine w_blk ?_ | refine w_blkN ?_ | refine w_skip ?_ | refine w_ops ?_ | ((refine i_cond ?_); first | refine w_condT rfl ?_ | refine w_condF rfl ?_) | ((refine i_nil ?_); first | refine w_end6 rfl rfl rfl rfl rfl rfl ?_ | refine w_end7 rfl rfl rfl rfl rfl rfl rfl ?_ | refine w_end8 rfl rfl rfl rfl rfl rfl rfl rfl ?_) | ((refine i_cons ?_); first | refine k_sidx rfl rfl (by omega) (hc' (by omega)) ?_ | refine k_sub8 rfl rfl (by omega) ?_ | refine k_want rfl ?_ | refine k_mv rfl ?_ | refine k_pickF rfl rfl ?_ | refine k_add rfl rfl (by omega) ?_ | refine k_mul rfl rfl (by omega) ?_ | refine k_conv rfl (by omega) ?_ | refine k_lssT rfl rfl (by omega) ?_ | refine k_lssF rfl rfl (by omega) ?_ | refine k_gtrF rfl rfl (by omega) ?_))
    exact w_roundN ⟨rfl, i + 1, _, by omega, by omega, by omega, hst, rfl⟩ (by simp [cntV, Env.get]; omega)
  · have : i = s.length := by omega
    subst this
    rw [List.drop_length] at hr
    repeat' (first | refine w_seq ?_ | refine w_seqN ?_ | refine w_seqX ?_ | refine w_exit ?_ | refine w_ops ?_ | ((refine i_cond ?_); refine w_condF rfl ?_) | ((refine i_nil ?_); refine w_end7 rfl rfl rfl rfl rfl rfl rfl ?_) | ((refine i_cons ?_); refine k_lssF rfl rfl (by omega) ?_))
    exact w_roundX ⟨rfl, rfl, v, hr, _, _, _, rfl⟩

theorem call66 (h0 : Heap) (s : List UInt8) (a b : Int) (hl : s.length ≤ 1000000) :
    ∃ v h', Cal FT HKp 66 [.sc (tb s), .sc (.int .i64 a), .sc (.int .i64 b)] h0 v h' ∧ h' = h0 ∧ v = .tup [.sc (.int .i64 ((numA s a b).getD 0)), .sc (.bool (numA s a b).isSome)] := by
  refine Cal.of (F := a66) rfl rfl rfl ?_
  by_cases h1 : s = []
  · have hn : numA s a b = none := by unfold numA; rw [if_pos (.inl h1)]
    rw [hn]
    repeat' (first | refine w_seq ?_ | refine w_seqN ?_ | refine w_seqR ?_ | refine w_ret ?_ | refine w_ops ?_ | ((refine i_cond ?_); refine w_condT rfl ?_) | ((refine i_nil ?_); first | refine w_end2 rfl rfl ?_ | refine w_end3 rfl rfl rfl ?_ | refine w_end4 rfl rfl rfl rfl ?_) | ((refine i_cons ?_); first | refine k_seql rfl (show _ = some (tb []) from rfl) (decide_eq_true h1) ?_ | refine k_skip rfl ?_ | refine k_skipU rfl ?_ | refine k_mv rfl ?_ | refine k_pickT rfl rfl ?_))
    exact ⟨.inr rfl, rfl, rfl⟩
  obtain ⟨c, hc⟩ : ∃ c, s[0]? = some c := by cases s with
    | nil => exact absurd rfl h1
    | cons x r => exact ⟨x, rfl⟩
  have hc' : ∀ {j : Int}, j = ((0 : Nat) : Int) → s[j.toNat]? = some c := fun hj => by subst hj; exact hc
  have hlp : 0 < s.length := List.length_pos_iff.2 h1
  have h48 : s[0]? = some 48 ↔ c.toNat = 48 := by
    rw [hc, Option.some.injEq]
    exact ⟨fun e => by rw [e]; rfl, fun e => UInt8.toNat_inj.1 e⟩
  by_cases h2 : 1 < s.length ∧ c.toNat = 48
  · have hn : numA s a b = none := by unfold numA; rw [if_pos (.inr (.inl ⟨h2.1, h48.2 h2.2⟩))]
    rw [hn]
    obtain ⟨h2a, h2b⟩ := h2
    repeat' (first | refine w_seq ?_ | refine w_seqN ?_ | refine w_seqR ?_ | refine w_ret ?_ | refine w_ops ?_ | ((refine i_cond ?_); refine w_condT rfl ?_) | ((refine i_nil ?_); first | refine w_end2 rfl rfl ?_ | refine w_end3 rfl rfl rfl ?_ | refine w_end4 rfl rfl rfl rfl ?_) | ((refine i_cons ?_); first | refine k_seql rfl (show _ = some (tb []) from rfl) (decide_eq_false h1) ?_ | refine k_slen rfl ?_ | refine k_sidx rfl rfl (by omega) (hc' (by omega)) ?_ | refine k_skip rfl ?_ | refine k_want rfl ?_ | refine k_mv rfl ?_ | refine k_pickT rfl rfl ?_ | refine k_pickF rfl rfl ?_ | refine k_gtrT rfl rfl (by omega) ?_ | refine k_eqlT rfl rfl (by omega) ?_))
    exact ⟨.inr rfl, rfl, rfl⟩
  by_cases h3 : 9 < s.length
  · have hn : numA s a b = none := by unfold numA; rw [if_pos (.inr (.inr h3))]
    rw [hn]
    have h2b : ¬ c.toNat = 48 := fun e => h2 ⟨by omega, e⟩
    repeat' (first | refine w_seq ?_ | refine w_seqN ?_ | refine w_seqR ?_ | refine w_ret ?_ | refine w_ops ?_ | ((refine i_cond ?_); refine w_condT rfl ?_) | ((refine i_nil ?_); first | refine w_end2 rfl rfl ?_ | refine w_end3 rfl rfl rfl ?_ | refine w_end4 rfl rfl rfl rfl ?_) | ((refine i_cons ?_); first | refine k_seql rfl (show _ = some (tb []) from rfl) (decide_eq_false h1) ?_ | refine k_slen rfl ?_ | refine k_sidx rfl rfl (by omega) (hc' (by omega)) ?_ | refine k_want rfl ?_ | refine k_mv rfl ?_ | refine k_pickT rfl rfl ?_ | refine k_pickF rfl rfl ?_ | refine k_gtrT rfl rfl (by omega) ?_ | refine k_eqlF rfl rfl (by omega) ?_))
    exact ⟨.inr rfl, rfl, rfl⟩
  have hn : numA s a b = match rdN s 0 with
      | none => none
      | some v => if v < a ∨ b < v then none else some v := by
    have hh : ¬ (s = [] ∨ (1 < s.length ∧ s[0]? = some 48) ∨ 9 < s.length) := by
      intro hh
      rcases hh with hh | hh | hh
      · exact h1 hh
      · exact h2 ⟨hh.1, h48.1 hh.2⟩
      · exact h3 hh
    unfold numA; rw [if_neg hh]; cases rdN s 0 <;> rfl
  have go : ∀ E : Env, E = [(0, some (.sc (tb s))), (1, some (.sc (.int .i64 a))), (2, some (.sc (.int .i64 b))), (8, some (.sc (.int .i64 0))), (28, some (.sc (.int .i64 (s.length : Int)))), (29, some (.sc (.int .i64 0)))] → I66 h0 s a b E h0 := fun E hE => ⟨rfl, 0, 0, by omega, by omega, by decide, rfl, hE⟩
  by_cases h2a : 1 < s.length
  · have h2b : ¬ c.toNat = 48 := fun e => h2 ⟨h2a, e⟩
    repeat' (first | refine w_seq ?_ | refine w_seqN ?_ | refine w_blk ?_ | refine w_skip ?_ | refine w_ops ?_ | ((refine i_cond ?_); refine w_condF rfl ?_) | ((refine i_nil ?_); first | refine w_end3 rfl rfl rfl ?_ | refine w_end4 rfl rfl rfl rfl ?_ | refine w_end6 rfl rfl rfl rfl rfl rfl ?_) | ((refine i_cons ?_); first | refine k_seql rfl (show _ = some (tb []) from rfl) (decide_eq_false h1) ?_ | refine k_slen rfl ?_ | refine k_sidx rfl rfl (by omega) (hc' (by omega)) ?_ | refine k_want rfl ?_ | refine k_mv rfl ?_ | refine k_pickT rfl rfl ?_ | refine k_pickF rfl rfl ?_ | refine k_gtrT rfl rfl (by omega) ?_ | refine k_gtrF rfl rfl (by omega) ?_ | refine k_eqlF rfl rfl (by omega) ?_))
    refine w_loop (I66 h0 s a b) (cntV s.length 29) (R66 h0 s a b) (go _ rfl) (round66 h0 s a b (by omega)) ?_
    rintro ex E' h' hR
    cases ex with
    | nm => exact hR.2.elim
    | rt =>
      obtain ⟨rfl, hno, rfl⟩ := hR
      rw [hn, hno]
      repeat' (first | refine w_seqR ?_ | refine w_blkR ?_)
      exact ⟨.inr rfl, rfl, rfl⟩
    | ex z =>
      obtain ⟨rfl, rfl, v, hv, x, y, z, rfl⟩ := hR
      rw [hn, hv]
      by_cases l1 : v < a
      · simp only [l1, true_or, if_true]
        repeat' (first | refine w_seq ?_ | refine w_seqN ?_ | refine w_seqR ?_ | refine w_blkX ?_ | refine w_ret ?_ | refine w_ops ?_ | ((refine i_cond ?_); refine w_condT rfl ?_) | ((refine i_nil ?_); refine w_end2 rfl rfl ?_) | ((refine i_cons ?_); first | refine k_skip rfl ?_ | refine k_mv rfl ?_ | refine k_pickT rfl rfl ?_ | refine k_lssT rfl rfl (by omega) ?_))
        exact ⟨.inr rfl, rfl, rfl⟩
      by_cases l2 : b < v
      · simp only [l2, or_true, if_true]
        repeat' (first | refine w_seq ?_ | refine w_seqN ?_ | refine w_seqR ?_ | refine w_blkX ?_ | refine w_ret ?_ | refine w_ops ?_ | ((refine i_cond ?_); refine w_condT rfl ?_) | ((refine i_nil ?_); refine w_end2 rfl rfl ?_) | ((refine i_cons ?_); first | refine k_want rfl ?_ | refine k_mv rfl ?_ | refine k_pickF rfl rfl ?_ | refine k_lssF rfl rfl (by omega) ?_ | refine k_gtrT rfl rfl (by omega) ?_))
        exact ⟨.inr rfl, rfl, rfl⟩
      simp only [l1, l2, or_self, if_false]
      repeat' (first | refine w_seq ?_ | refine w_seqN ?_ | refine w_blkX ?_ | refine w_skip ?_ | refine w_ret ?_ | refine w_ops ?_ | ((refine i_cond ?_); refine w_condF rfl ?_) | ((refine i_nil ?_); refine w_end2 rfl rfl ?_) | ((refine i_cons ?_); first | refine k_want rfl ?_ | refine k_mv rfl ?_ | refine k_pickF rfl rfl ?_ | refine k_lssF rfl rfl (by omega) ?_ | refine k_gtrF rfl rfl (by omega) ?_))
      exact ⟨.inr rfl, rfl, rfl⟩
  · repeat' (first | refine w_seq ?_ | refine w_seqN ?_ | refine w_blk ?_ | refine w_skip ?_ | refine w_ops ?_ | ((refine i_cond ?_); refine w_condF rfl ?_) | ((refine i_nil ?_); first | refine w_end3 rfl rfl rfl ?_ | refine w_end4 rfl rfl rfl rfl ?_ | refine w_end6 rfl rfl rfl rfl rfl rfl ?_) | ((refine i_cons ?_); first | refine k_seql rfl (show _ = some (tb []) from rfl) (decide_eq_false h1) ?_ | refine k_slen rfl ?_ | refine k_skip rfl ?_ | refine k_want rfl ?_ | refine k_mv rfl ?_ | refine k_pickF rfl rfl ?_ | refine k_gtrF rfl rfl (by omega) ?_))
    refine w_loop (I66 h0 s a b) (cntV s.length 29) (R66 h0 s a b) (go _ rfl) (round66 h0 s a b (by omega)) ?_
    rintro ex E' h' hR
    cases ex with
    | nm => exact hR.2.elim
    | rt =>
      obtain ⟨rfl, hno, rfl⟩ := hR
      rw [hn, hno]
      repeat' (first | refine w_seqR ?_ | refine w_blkR ?_)
      exact ⟨.inr rfl, rfl, rfl⟩
    | ex z =>
      obtain ⟨rfl, rfl, v, hv, x, y, z, rfl⟩ := hR
      rw [hn, hv]
      by_cases l1 : v < a
      · simp only [l1, true_or, if_true]
        repeat' (first | refine w_seq ?_ | refine w_seqN ?_ | refine w_seqR ?_ | refine w_blkX ?_ | refine w_ret ?_ | refine w_ops ?_ | ((refine i_cond ?_); refine w_condT rfl ?_) | ((refine i_nil ?_); refine w_end2 rfl rfl ?_) | ((refine i_cons ?_); first | refine k_skip rfl ?_ | refine k_mv rfl ?_ | refine k_pickT rfl rfl ?_ | refine k_lssT rfl rfl (by omega) ?_))
        exact ⟨.inr rfl, rfl, rfl⟩
      by_cases l2 : b < v
      · simp only [l2, or_true, if_true]
        repeat' (first | refine w_seq ?_ | refine w_seqN ?_ | refine w_seqR ?_ | refine w_blkX ?_ | refine w_ret ?_ | refine w_ops ?_ | ((refine i_cond ?_); refine w_condT rfl ?_) | ((refine i_nil ?_); refine w_end2 rfl rfl ?_) | ((refine i_cons ?_); first | refine k_want rfl ?_ | refine k_mv rfl ?_ | refine k_pickF rfl rfl ?_ | refine k_lssF rfl rfl (by omega) ?_ | refine k_gtrT rfl rfl (by omega) ?_))
        exact ⟨.inr rfl, rfl, rfl⟩
      simp only [l1, l2, or_self, if_false]
      repeat' (first | refine w_seq ?_ | refine w_seqN ?_ | refine w_blkX ?_ | refine w_skip ?_ | refine w_ret ?_ | refine w_ops ?_ | ((refine i_cond ?_); refine w_condF rfl ?_) | ((refine i_nil ?_); refine w_end2 rfl rfl ?_) | ((refine i_cons ?_); first | refine k_want rfl ?_ | refine k_mv rfl ?_ | refine k_pickF rfl rfl ?_ | refine k_lssF rfl rfl (by omega) ?_ | refine k_gtrF rfl rfl (by omega) ?_))
      exact ⟨.inr rfl, rfl, rfl⟩

section
variable {FT : FuncId → Option AFun} {HK : FuncId → Option Hook} {E : Env} {h : Heap} {K : Env → Heap → Prop} {d : Option Nat} {r : List AOp} {x : AO}
theorem k_sto {a : List UInt8} {hi : AO} {u : Int} {k1 : IntKind} (hx : evS E x = some (tb a)) (hh : evS E hi = some (.int k1 u)) (hb : 0 ≤ u ∧ u ≤ a.length)
    (hw : wOps FT HK r (bindE d (some (.sc (tb (a.take u.toNat)))) E) h K) : wOps FT HK (⟨d, .slS x none (some hi), none⟩ :: r) E h K := by
  refine op_ok rfl rfl ?_ hw
  have hl : bnd E 0 none = some 0 := rfl
  simp only [step1, hx, tb, hl, Option.bind_some, tb_size, bnd_some hh hb.1, tb_cut]
  rw [if_pos (by omega), List.drop_zero, Nat.sub_zero]
end
/-- Whether a text begins with another. -/
def hasP (s p : List UInt8) : Bool := decide (s.take p.length = p)
theorem call97 (h0 : Heap) (s p : List UInt8) : ∃ v h', Cal FT HKp 97 [.sc (tb s), .sc (tb p)] h0 v h' ∧ h' = h0 ∧ v = .sc (.bool (hasP s p)) := by
  refine Cal.of (F := a97) rfl rfl rfl ?_
  by_cases h1 : p.length ≤ s.length
  · repeat' (first | refine w_seq ?_ | refine w_seqN ?_ | refine w_ret ?_ | refine w_ops ?_ | ((refine i_nil ?_); first | refine w_end1 rfl ?_ | refine w_end2 rfl rfl ?_) | ((refine i_cons ?_); first | refine k_slen rfl ?_ | refine k_sto rfl rfl (by omega) ?_ | refine k_seql rfl rfl rfl ?_ | refine k_want rfl ?_ | refine k_mv rfl ?_ | refine k_pickT rfl rfl ?_ | refine k_geqT rfl rfl (by omega) ?_))
    refine ⟨.inr rfl, rfl, ?_⟩
    simp only [hasP, SV.bool]; rfl
  · have : hasP s p = false := decide_eq_false fun e => by
      have := congrArg List.length e
      rw [List.length_take] at this
      omega
    rw [this]
    repeat' (first | refine w_seq ?_ | refine w_seqN ?_ | refine w_ret ?_ | refine w_ops ?_ | ((refine i_nil ?_); first | refine w_end1 rfl ?_ | refine w_end2 rfl rfl ?_) | ((refine i_cons ?_); first | refine k_slen rfl ?_ | refine k_skip rfl ?_ | refine k_mv rfl ?_ | refine k_pickF rfl rfl ?_ | refine k_geqF rfl rfl (by omega) ?_))
    exact ⟨.inr rfl, rfl, rfl⟩
theorem call84 (h0 : Heap) (s p : List UInt8) : ∃ v h', Cal FT HKp 84 [.sc (tb s), .sc (tb p)] h0 v h' ∧ h' = h0 ∧ v = .tup [.sc (tb (if hasP s p = true then s.drop p.length else s)), .sc (.bool (hasP s p))] := by
  refine Cal.of (F := a84) rfl rfl rfl ?_
  have k1 := call97 h0 s p
  cases hp : hasP s p with
  | false =>
    rw [hp] at k1
    repeat' (first | refine w_seq ?_ | refine w_seqN ?_ | refine w_seqR ?_ | refine w_ret ?_ | refine w_ops ?_ | ((refine i_cond ?_); refine w_condT rfl ?_) | ((refine i_nil ?_); first | refine w_end2 rfl rfl ?_ | refine w_end3 rfl rfl rfl ?_) | ((refine i_cons ?_); first | (refine k_call rfl k1 ?_; rintro v h3 ⟨rfl, rfl⟩) | refine k_mv rfl ?_ | refine k_notF rfl ?_))
    exact ⟨.inr rfl, rfl, rfl⟩
  | true =>
    rw [hp] at k1
    have hl : p.length ≤ s.length := by
      have := congrArg List.length (of_decide_eq_true hp : s.take p.length = p)
      rw [List.length_take] at this
      omega
    repeat' (first | refine w_seq ?_ | refine w_seqN ?_ | refine w_skip ?_ | refine w_ret ?_ | refine w_ops ?_ | ((refine i_cond ?_); refine w_condF rfl ?_) | ((refine i_nil ?_); first | refine w_end2 rfl rfl ?_ | refine w_end3 rfl rfl rfl ?_) | ((refine i_cons ?_); first | (refine k_call rfl k1 ?_; rintro v h3 ⟨rfl, rfl⟩) | refine k_slen rfl ?_ | refine k_sfrom rfl rfl (by omega) ?_ | refine k_mv rfl ?_ | refine k_notT rfl ?_))
    exact ⟨.inr rfl, rfl, rfl⟩
theorem call65 (h0 : Heap) (s p : List UInt8) : ∃ v h', Cal FT HKp 65 [.sc (tb s), .sc (tb p)] h0 v h' ∧ h' = h0 ∧ v = .tup [.sc (tb (if hasP s p = true then s.drop p.length else s)), .sc (.bool (hasP s p))] := by
  refine Cal.of (F := a65) rfl rfl rfl ?_
  repeat' (first | refine w_seq ?_ | refine w_seqN ?_ | refine w_ret ?_ | refine w_ops ?_ | ((refine i_nil ?_); refine w_end2 rfl rfl ?_) | ((refine i_cons ?_); first | (refine k_call rfl (call84 h0 s p) ?_; rintro v h3 ⟨rfl, rfl⟩) | refine k_mv rfl ?_ | refine k_ok rfl rfl ?_))
  exact ⟨.inr rfl, rfl, rfl⟩
end Go.Proofs.YtehnalbdfnmphaaDoor
