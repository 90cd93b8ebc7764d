/- Equal: contracts. -/
import Derived.Test.YtofknpknogfijaaGreatDoorPN
namespace Go.Proofs.YtofknpknogfijaaGreatDoor
open Go.Ab
set_option linter.unusedVariables false
set_option linter.unusedSimpArgs false
set_option maxRecDepth 20000
set_option maxHeartbeats 4000000
attribute [local irreducible] wOps wA wSeq wBlk wRound wRoundI wOpsD wOpsS
set_option linter.unusedSectionVars false
variable [HB]

def I60 (h0 : Heap) (s t : SV) (a b : List Tm) (E : Env) (h : Heap) : Prop := h = h0 ∧ ∃ i : Nat, i ≤ a.length ∧ a.take i = b.take i ∧
  E.keep [0, 1, 12, 13] = [(0, some (.sc s)), (1, some (.sc t)), (12, some (.sc (.int .i64 (a.length : Nat)))), (13, some (.sc (.int .i64 (i : Nat))))]
def R60 (h0 : Heap) (a b : List Tm) (ex : Ex) (E : Env) (h : Heap) : Prop := h = h0 ∧ ((ex = .ex 0 ∧ a = b) ∨ (ex = .rt ∧ a ≠ b ∧ E = [(4, some (.sc (.bool false)))]))
theorem round60 (h0 : Heap) (s t : SV) (a b : List Tm) (hs : IsD h0 s (tms a)) (ht : IsD h0 t (tms b)) (hl : a.length = b.length) (hn : a.length ≤ 3000000) (E : Env) (h : Heap) (hI : I60 h0 s t a b E h) :
    wA FT HKt b60L0 (E.keep [0, 1, 12, 13]) h (wRound (I60 h0 s t a b) (cK [0, 1, 12, 13] a.length 13) (cK [0, 1, 12, 13] a.length 13 E h) (R60 h0 a b)) := by
  obtain ⟨rfl, i, hi, he, hE⟩ := hI
  have hm : cK [0, 1, 12, 13] a.length 13 E h = a.length - i := by unfold cK; rw [hE]; rfl
  rw [hm, hE]
  by_cases hlt : i < a.length
  · obtain ⟨x, hx⟩ : ∃ x, a[i]? = some x := ⟨_, List.getElem?_eq_getElem hlt⟩
    obtain ⟨y, hy⟩ : ∃ y, b[i]? = some y := ⟨_, List.getElem?_eq_getElem (by omega)⟩
    obtain ⟨id1, o1, c1, e1, r1⟩ := hs.at (i := i) (p := tmP x) (by simp [hx])
    obtain ⟨id2, o2, c2, e2, r2⟩ := ht.at (i := i) (p := tmP y) (by simp [hy])
    rw [tms_len] at e1 e2
    subst e1 e2
    have b0 : (0 : Int) ≤ (i : Nat) ∧ ((i : Nat) : Int) < (b.length : Nat) := by omega
    by_cases hxy : x = y
    · subst hxy
      have e3 : (x.1 == x.1 && x.2 == x.2) = true := by simp
      repeat' (first | refine w_seq ?_ | refine w_seqN ?_ | refine w_blk ?_ | refine w_blkN ?_ | refine w_skip ?_ | refine w_ops ?_ | refine w_opsD ?_ | refine d_one ?_ | refine d_nil ?_ | ((refine i_cond ?_); first | refine w_condT rfl ?_ | refine w_condF rfl ?_) | ((refine i_nil ?_); first | refine d_same ?_ | refine w_end4 rfl rfl rfl rfl ?_ | refine w_end5 rfl rfl rfl rfl rfl ?_) | ((refine i_cons ?_); first | refine k_idxA (esz := 2) rfl rfl (by omega) ?_ | refine k_ldD rfl r1 ?_ | refine k_ldD rfl r2 ?_ | (refine k_seq2 rfl rfl ?_; rw [e3]) | refine k_mv rfl ?_ | refine k_add rfl rfl (by omega) ?_ | refine k_lssT rfl rfl (by omega) ?_))
      refine w_roundN ⟨rfl, i + 1, by omega, ?_, rfl⟩ (by simp [cK, Env.keep, Env.get]; omega)
      rw [List.take_add_one, List.take_add_one, he, hx, hy]
    · have e3 : (x.1 == y.1 && x.2 == y.2) = false := by
        rw [Bool.and_eq_false_iff]
        by_cases h1 : x.1 = y.1
        · exact .inr (by simpa using fun h2 => hxy (Prod.ext h1 h2))
        · exact .inl (by simpa using h1)
      repeat' (first | refine w_seq ?_ | refine w_seqN ?_ | refine w_seqR ?_ | refine w_blk ?_ | refine w_blkR ?_ | refine w_skip ?_ | refine w_ret ?_ | refine w_ops ?_ | refine w_opsD ?_ | refine d_one ?_ | refine d_nil ?_ | ((refine i_cond ?_); refine w_condT rfl ?_) | ((refine i_nil ?_); first | refine d_same ?_ | refine w_end1 rfl ?_ | refine w_end5 rfl rfl rfl rfl rfl ?_) | ((refine i_cons ?_); first | refine k_idxA (esz := 2) rfl rfl (by omega) ?_ | refine k_ldD rfl r1 ?_ | refine k_ldD rfl r2 ?_ | (refine k_seq2 rfl rfl ?_; rw [e3]) | refine k_mv rfl ?_ | refine k_lssT rfl rfl (by omega) ?_))
      exact w_roundR ⟨rfl, .inr ⟨rfl, fun h => hxy (by rw [h, hy] at hx; exact (Option.some.inj hx).symm), rfl⟩⟩
  · have : i = a.length := by omega
    subst this
    repeat' (first | refine w_seq ?_ | refine w_seqN ?_ | refine w_seqX ?_ | refine w_exit ?_ | refine w_ops ?_ | ((refine i_cond ?_); refine w_condF rfl ?_) | ((refine i_nil ?_); refine w_end5 rfl rfl rfl rfl rfl ?_) | ((refine i_cons ?_); refine k_lssF rfl rfl (by omega) ?_))
    rw [List.take_length, hl, List.take_length] at he
    exact w_roundX ⟨rfl, .inl ⟨rfl, he⟩⟩
theorem call60 (h0 : Heap) (s t : SV) (a b : List Tm) (hs : IsD h0 s (tms a)) (ht : IsD h0 t (tms b)) (hn : a.length ≤ 3000000) : ∃ r h', Cal FT HKt 60 [.sc s, .sc t] h0 r h' ∧ r = .sc (.bool (decide (a = b))) ∧ h' = h0 := by
  refine Cal.of (F := a60) rfl rfl rfl ?_
  have ls := hs.len
  have lt := ht.len
  rw [tms_len] at ls lt
  by_cases hl : a.length = b.length
  · repeat' (first | refine w_seq ?_ | refine w_seqN ?_ | refine w_blk ?_ | refine w_skip ?_ | refine w_ops ?_ | ((refine i_cond ?_); refine w_condF rfl ?_) | ((refine i_nil ?_); first | refine w_end2 rfl rfl ?_ | refine w_end3 rfl rfl rfl ?_ | refine w_end4 rfl rfl rfl rfl ?_) | ((refine i_cons ?_); first | refine k_len rfl ls ?_ | refine k_len rfl lt ?_ | refine k_mv rfl ?_ | refine k_neqF rfl rfl (by omega) ?_))
    refine w_loop (I60 h0 s t a b) (cK [0, 1, 12, 13] a.length 13) (R60 h0 a b) ⟨rfl, 0, Nat.zero_le _, rfl, rfl⟩ (round60 h0 s t a b hs ht hl hn) ?_
    rintro ex E' h1 ⟨rfl, ⟨rfl, he⟩ | ⟨rfl, he, rfl⟩⟩
    · rw [decide_eq_true he]
      repeat' (first | refine w_seq ?_ | refine w_seqN ?_ | refine w_blkX ?_ | refine w_ret ?_ | refine w_ops ?_ | ((refine i_nil ?_); refine w_end1 rfl ?_) | ((refine i_cons ?_); refine k_mv rfl ?_))
      exact ⟨.inr rfl, rfl, rfl⟩
    · rw [decide_eq_false he]
      repeat' (first | refine w_seqR ?_ | refine w_blkR ?_)
      exact ⟨.inr rfl, rfl, rfl⟩
  · rw [decide_eq_false fun h => hl (by rw [h])]
    repeat' (first | refine w_seq ?_ | refine w_seqN ?_ | refine w_seqR ?_ | refine w_ret ?_ | refine w_ops ?_ | ((refine i_cond ?_); refine w_condT rfl ?_) | ((refine i_nil ?_); first | refine w_end1 rfl ?_ | refine w_end2 rfl rfl ?_ | refine w_end3 rfl rfl rfl ?_) | ((refine i_cons ?_); first | refine k_len rfl ls ?_ | refine k_len rfl lt ?_ | refine k_mv rfl ?_ | refine k_neqT rfl rfl (by omega) ?_))
    exact ⟨.inr rfl, rfl, rfl⟩
theorem call23 (h0 : Heap) (s t : SV) (p q : Pol) (hs : IsD h0 s (tms p.ts)) (ht : IsD h0 t (tms q.ts)) (hn : p.ts.length ≤ 3000000) : ∃ r h', Cal FT HKt 23 [.agg [.bool p.big, s], .agg [.bool q.big, t]] h0 r h' ∧ Ext h0 h' ∧ r = .sc (.bool (decide (p = q))) := by
  refine Cal.of (F := a23) rfl rfl rfl ?_
  have k46 := fun H (e : Ext h0 H) => call60 H s t p.ts q.ts (hs.ext e) (ht.ext e) hn
  obtain ⟨pb, pt⟩ := p
  obtain ⟨qb, qt⟩ := q
  simp only [Pol.mk.injEq] at *
  by_cases hb : pb = qb
  · subst hb
    simp only [true_and]
    have e3 : (pb == pb) = true := by simp
    repeat' (first | refine w_seq ?_ | refine w_seqN ?_ | refine w_ret ?_ | refine w_ops ?_ | ((refine i_nil ?_); first | refine w_end1 rfl ?_ | refine w_end2 rfl rfl ?_) | ((refine i_cons ?_); first | (have z := e1; refine k_boxC rfl ?_; intro h2 e2 c2; have d1 := c1.ext e2) | (refine k_boxC rfl ?_; intro h1 e1 c1) | refine k_ldC0 rfl d1 ?_ | refine k_ldC0 rfl c2 ?_ | refine k_ldC1 rfl d1 ?_ | refine k_ldC1 rfl c2 ?_ | (refine k_beq rfl rfl ?_; simp only [Bool.false_eq_true, if_false, e3]) | (refine k_call rfl (k46 h2 (e1.trans e2)) ?_; rintro r _ ⟨rfl, rfl⟩) | refine k_want rfl ?_ | refine k_mv rfl ?_ | refine k_pickT rfl rfl ?_ | refine k_ok rfl rfl ?_))
    exact ⟨.inr rfl, e1.trans e2, rfl⟩
  · have e3 : (pb == qb) = false := by simpa using hb
    rw [decide_eq_false fun h => hb h.1]
    repeat' (first | refine w_seq ?_ | refine w_seqN ?_ | refine w_ret ?_ | refine w_ops ?_ | ((refine i_nil ?_); first | refine w_end1 rfl ?_ | refine w_end2 rfl rfl ?_) | ((refine i_cons ?_); first | (have z := e1; refine k_boxC rfl ?_; intro h2 e2 c2; have d1 := c1.ext e2) | (refine k_boxC rfl ?_; intro h1 e1 c1) | refine k_ldC0 rfl d1 ?_ | refine k_ldC0 rfl c2 ?_ | (refine k_beq rfl rfl ?_; simp only [Bool.false_eq_true, if_false, e3]) | refine k_skip rfl ?_ | refine k_mv rfl ?_ | refine k_pickF rfl rfl ?_ | refine k_ok rfl rfl ?_))
    exact ⟨.inr rfl, e1.trans e2, rfl⟩
end Go.Proofs.YtofknpknogfijaaGreatDoor
