/- The reference's polynomials: Of, Coef. -/
import Derived.Test.YtofknpknogfijaaGreatDoorMV1
import Derived.Test.YtofknpknogfijaaGreatDoorLS1
namespace Go.Proofs.YtofknpknogfijaaGreatDoor
open Go.Ab
set_option linter.unusedVariables false
set_option linter.unusedSimpArgs false
set_option maxRecDepth 20000
set_option maxHeartbeats 4000000
attribute [local irreducible] wOps wA wSeq wBlk wRound wRoundI wOpsD wOpsS
set_option linter.unusedSectionVars false
variable [HB]

section
variable {FT : FuncId → Option AFun} {HK : FuncId → Option Hook} {E : Env} {h : Heap} {K : Env → Heap → Prop} {d : Option Nat} {r : List AOp} {x : AO}
/-- The first cell of two is stored. -/
theorem k_stC0 {q : Nat} {a b v : SV} {p : AO} (ha : evS E p = some (.ptr q (0 + 0))) (hx : ev E x = some (.sc v)) (hc : Cel h q a b) (hw : ∀ h1, Wr h h1 q v b → wOps FT HK r (bindE d none E) h1 K) :
    wOps FT HK (⟨d, .st 1 p x, none⟩ :: r) E h K :=
  op_ok (v := none) (h' := h.set q (.cells [v, b] true 0)) rfl rfl (by
    have hc' : h[q]? = some (.cells [a, b] true 0) := hc
    simp [step1, ha, hx, AV.cells, writeN, hc', splice]) (hw _ ⟨rfl, _, _, hc⟩)
end
/-- A polynomial of the reference. -/
def IsRf (h : Heap) (v : AV) (p : Pol) : Prop := ∃ s, v = .agg [s, .bool p.big] ∧ IsD h s (tms p.ts)
structure St27 (h0 h : Heap) (q4 q5 : Nat) (b : Bool) (s : SV) (r : List Tm) : Prop where
  e : Ext h0 h
  c4 : Cel h q4 .nilS (.bool b)
  c5 : Cel h q5 s (.bool false)
  o : OwnD h0 h s (tms r)
  l : h0.length ≤ q4 ∧ q4 < q5
theorem St27.ext {h0 h h' : Heap} {q4 q5 : Nat} {b : Bool} {s : SV} {r : List Tm} (u : St27 h0 h q4 q5 b s r) (e : Ext h h') : St27 h0 h' q4 q5 b s r := ⟨u.e.trans e, u.c4.ext e, u.c5.ext e, u.o.ext e, u.l⟩
def I27 (h0 : Heap) (q4 q5 : Nat) (low : Int) (c : SV) (xs : List Int) (E : Env) (h : Heap) : Prop := ∃ (i : Nat) (r : List Tm) (s : SV), i ≤ xs.length ∧ ofN low xs i = some r ∧ St27 h0 h q4 q5 false s r ∧
  E.keep [0, 1, 4, 5, 6] = [(0, some (.sc (.int .i64 low))), (1, some (.sc c)), (4, some (.sc (.ptr q4 0))), (5, some (.sc (.ptr q5 0))), (6, some (.sc (.int .i64 (i : Nat))))]
def R27 (h0 : Heap) (q4 q5 : Nat) (low : Int) (xs : List Int) (ex : Ex) (E : Env) (h : Heap) : Prop :=
  (ex = .ex 0 ∧ ∃ r s a b c d, ofN low xs xs.length = some r ∧ St27 h0 h q4 q5 false s r ∧ E = [(0, a), (1, b), (4, some (.sc (.ptr q4 0))), (5, some (.sc (.ptr q5 0))), (6, c), (10, d)]) ∨
  (ex = .rt ∧ ofN low xs xs.length = none ∧ Ext h0 h ∧ Cel h q4 .nilS (.bool true) ∧ E = [(4, some (.sc (.ptr q4 0)))])
theorem round27 (h0 : Heap) (q4 q5 : Nat) (low : Int) (c : SV) (xs : List Int) (hs : smallQ low xs) (hc : IsInts h0 c xs) (E : Env) (h : Heap) (hI : I27 h0 q4 q5 low c xs E h) :
    wA FT HKt b27L0 (E.keep [0, 1, 4, 5, 6]) h (wRound (I27 h0 q4 q5 low c xs) (cK [0, 1, 4, 5, 6] xs.length 6) (cK [0, 1, 4, 5, 6] xs.length 6 E h) (R27 h0 q4 q5 low xs)) := by
  obtain ⟨i, r, s, hi, hr, st, hE⟩ := hI
  have hm : cK [0, 1, 4, 5, 6] xs.length 6 E h = xs.length - i := by unfold cK; rw [hE]; rfl
  rw [hm, hE]
  have ls := IsSl.len hc
  obtain ⟨n20, hl1, hl2, hxs⟩ := hs
  by_cases hlt : i < xs.length
  · obtain ⟨x, hx⟩ : ∃ x, xs[i]? = some x := ⟨_, List.getElem?_eq_getElem hlt⟩
    have hx2 : xs.getD i 0 = x := by rw [List.getD_eq_getElem?_getD, hx]; rfl
    obtain ⟨id, off, cap, rfl, rd0⟩ := IsInts.at hc hx
    have rd := readN_ext st.e rd0
    have c4 := st.c4
    have c5 := st.c5
    have l := st.l
    by_cases hz : x = 0
    · have en : ofN low xs (i + 1) = some r := by rw [ofN, hr, Option.bind_some, hx2, if_pos hz]
      subst hz
      repeat' (first | refine w_seq ?_ | refine w_seqN ?_ | refine w_seqX ?_ | refine w_blk ?_ | refine w_blkX ?_ | refine w_skip ?_ | refine w_exit ?_ | refine w_ops ?_ | ((refine i_cond ?_); refine w_condT rfl ?_) | ((refine i_nil ?_); first | refine w_end5 rfl rfl rfl rfl rfl ?_ | refine w_end6 rfl rfl rfl rfl rfl rfl ?_) | ((refine i_cons ?_); first | refine k_len rfl ls ?_ | refine k_idxA (esz := 1) rfl rfl (by omega) ?_ | refine k_ld rfl rd ?_ | refine k_mv rfl ?_ | refine k_add rfl rfl (by omega) ?_ | refine k_lssT rfl rfl (by omega) ?_ | refine k_eqlT rfl rfl (by omega) ?_))
      exact w_roundN ⟨i + 1, r, s, by omega, en, st, rfl⟩ (by simp [cK, Env.keep, Env.get]; omega)
    by_cases a1 : x.natAbs ≤ 1125899906842624
    · have en : ofN low xs (i + 1) = some (r ++ [(low + i, x)]) := by rw [ofN, hr, Option.bind_some, hx2, if_neg hz, if_pos ⟨a1, by simp only [eM]; omega, by simp only [eM]; omega⟩]
      have hrl := ofN_len hr
      repeat' (first | refine w_seq ?_ | refine w_seqN ?_ | refine w_blk ?_ | refine w_blkN ?_ | refine w_skip ?_ | refine w_ops ?_ | refine w_opsD ?_ | refine d_one ?_ | refine d_nil ?_ | ((refine i_cond ?_); first | refine w_condT rfl ?_ | refine w_condF rfl ?_) | ((refine i_nil ?_); first | refine d_same ?_ | refine d_ord ?_ | refine d_ext (by assumption) ?_ | refine w_end5 rfl rfl rfl rfl rfl ?_ | refine w_end6 rfl rfl rfl rfl rfl rfl ?_) | ((refine i_cons ?_); first | refine k_len rfl ls ?_ | refine k_idxA (esz := 1) rfl rfl (by omega) ?_ | refine k_ld rfl rd ?_ | refine k_fldA rfl ?_ | refine k_ldC0 rfl c5 ?_ | (refine k_bld rfl rfl ?_) | (refine k_bslD rfl ?_; intro h8 e8 src8; have st8 := st.ext e8) | (refine k_appD1 st8.e st8.o rfl rfl src8 (by rw [tms_len]; simp only [bigN]; omega) ?_; intro s' h2 o2 e2 f2 l2; have d5 := st8.c5.fram f2 (st8.o.cel st8.c5); have d4 := st8.c4.fram f2 (st8.o.cel st8.c4)) | (refine k_stC0 rfl rfl d5 ?_; intro h3 w3) | refine k_want rfl ?_ | refine k_mv rfl ?_ | refine k_pickF rfl rfl ?_ | refine k_add rfl rfl (by omega) ?_ | refine k_lssT rfl rfl (by omega) ?_ | refine k_lssF rfl rfl (by omega) ?_ | refine k_gtrF rfl rfl (by omega) ?_ | refine k_eqlF rfl rfl (by omega) ?_))
      refine w_roundN ⟨i + 1, _, s', by omega, en, ⟨w3.ext e2 (by omega), w3.keep d4 (by omega), w3.cel, ?_, l⟩, rfl⟩ (by simp [cK, Env.keep, Env.get]; omega)
      have := o2.wrC w3
      simpa [tms, tmP] using this
    · have en : ofN low xs (i + 1) = none := by rw [ofN, hr, Option.bind_some, hx2, if_neg hz, if_neg (fun h => a1 h.1)]
      by_cases a2 : x < -1125899906842624
      · repeat' (first | refine w_seq ?_ | refine w_seqN ?_ | refine w_seqR ?_ | refine w_blk ?_ | refine w_blkR ?_ | refine w_skip ?_ | refine w_ret ?_ | refine w_ops ?_ | ((refine i_cond ?_); first | refine w_condT rfl ?_ | refine w_condF rfl ?_) | ((refine i_nil ?_); first | refine w_end1 rfl ?_ | refine w_end6 rfl rfl rfl rfl rfl rfl ?_) | ((refine i_cons ?_); first | refine k_len rfl ls ?_ | refine k_idxA (esz := 1) rfl rfl (by omega) ?_ | refine k_ld rfl rd ?_ | (refine k_bld rfl rfl ?_) | (refine k_stC rfl rfl c4 ?_; intro h3 w3) | refine k_skip rfl ?_ | refine k_mv rfl ?_ | refine k_pickT rfl rfl ?_ | refine k_lssT rfl rfl (by omega) ?_ | refine k_eqlF rfl rfl (by omega) ?_))
        exact w_roundR (.inr ⟨rfl, ofN_none (by omega) en, w3.ext st.e l.1, w3.cel, rfl⟩)
      · repeat' (first | refine w_seq ?_ | refine w_seqN ?_ | refine w_seqR ?_ | refine w_blk ?_ | refine w_blkR ?_ | refine w_skip ?_ | refine w_ret ?_ | refine w_ops ?_ | ((refine i_cond ?_); first | refine w_condT rfl ?_ | refine w_condF rfl ?_) | ((refine i_nil ?_); first | refine w_end1 rfl ?_ | refine w_end6 rfl rfl rfl rfl rfl rfl ?_) | ((refine i_cons ?_); first | refine k_len rfl ls ?_ | refine k_idxA (esz := 1) rfl rfl (by omega) ?_ | refine k_ld rfl rd ?_ | (refine k_bld rfl rfl ?_) | (refine k_stC rfl rfl c4 ?_; intro h3 w3) | refine k_skip rfl ?_ | refine k_want rfl ?_ | refine k_mv rfl ?_ | refine k_pickT rfl rfl ?_ | refine k_pickF rfl rfl ?_ | refine k_lssT rfl rfl (by omega) ?_ | refine k_lssF rfl rfl (by omega) ?_ | refine k_gtrT rfl rfl (by omega) ?_ | refine k_eqlF rfl rfl (by omega) ?_))
        exact w_roundR (.inr ⟨rfl, ofN_none (by omega) en, w3.ext st.e l.1, w3.cel, rfl⟩)
  · have : i = xs.length := by omega
    subst this
    repeat' (first | refine w_seq ?_ | refine w_seqN ?_ | refine w_seqX ?_ | refine w_exit ?_ | refine w_ops ?_ | ((refine i_cond ?_); refine w_condF rfl ?_) | ((refine i_nil ?_); refine w_end6 rfl rfl rfl rfl rfl rfl ?_) | ((refine i_cons ?_); first | refine k_len rfl ls ?_ | refine k_mv rfl ?_ | refine k_lssF rfl rfl (by omega) ?_))
    exact w_roundX (.inl ⟨rfl, r, s, _, _, _, _, hr, st, rfl⟩)
theorem call27 (h0 : Heap) (low : Int) (c : SV) (xs : List Int) (hs : smallQ low xs) (hc : IsInts h0 c xs) : ∃ r h', Cal FT HKt 27 [.sc (.int .i64 low), .sc c] h0 r h' ∧ Ext h0 h' ∧ IsRf h' r (ofP low xs) := by
  refine Cal.of (F := a27) rfl rfl rfl ?_
  repeat' (first | refine w_seq ?_ | refine w_seqN ?_ | refine w_blk ?_ | refine w_ops ?_ | ((refine i_nil ?_); first | refine w_end3 rfl rfl rfl ?_ | refine w_end4 rfl rfl rfl rfl ?_ | refine w_end5 rfl rfl rfl rfl rfl ?_) | ((refine i_cons ?_); first | (have z := e1; refine k_newC ?_; intro h2 e2 c2; have d1 := c1.ext e2; have m1 := c1.lt) | (refine k_newC ?_; intro h1 e1 c1) | refine k_mv rfl ?_))
  refine w_loop (I27 h0 h0.length h1.length low c xs) (cK [0, 1, 4, 5, 6] xs.length 6) (R27 h0 h0.length h1.length low xs) ⟨0, [], .nilS, Nat.zero_le _, rfl, ⟨e1.trans e2, d1, c2, .inl ⟨rfl, rfl⟩, ⟨Nat.le_refl _, m1⟩⟩, rfl⟩ (round27 h0 h0.length h1.length low c xs hs hc) ?_
  rintro ex E' h3 (⟨rfl, r, s, _, _, _, _, hr, st, rfl⟩ | ⟨rfl, hr, e3, c4, rfl⟩)
  · have c4 := st.c4
    repeat' (first | refine w_seq ?_ | refine w_seqN ?_ | refine w_blkX ?_ | refine w_ret ?_ | refine w_ops ?_ | ((refine i_nil ?_); refine w_end1 rfl ?_) | ((refine i_cons ?_); first | refine k_ldC rfl st.c5 ?_ | (refine k_stC rfl rfl c4 ?_; intro h4 w4)))
    refine ⟨.inr rfl, oK_cell rfl w4.cel.read ⟨w4.ext st.e (Nat.le_refl _), s, ?_, ?_⟩⟩
    · unfold ofP; rw [hr]
    · unfold ofP; rw [hr]
      exact (st.o.wrC w4).is
  · repeat' (first | refine w_seqR ?_ | refine w_blkR ?_)
    refine ⟨.inr rfl, oK_cell rfl c4.read ⟨e3, .nilS, ?_, ?_⟩⟩
    · unfold ofP; rw [hr]
    · unfold ofP; rw [hr]
      exact IsD.nil _
end Go.Proofs.YtofknpknogfijaaGreatDoor
