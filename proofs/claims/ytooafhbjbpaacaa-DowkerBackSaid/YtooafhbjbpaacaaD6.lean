/- dowker.Diagram; Ints and Equal of equal ones. -/
import Derived.Test.YtooafhbjbpaacaaD5
import Derived.Test.YtooafhbjbpaacaaPlain
namespace Go.Proofs.Ytooafhbjbpaacaa
open Go.Ab
set_option linter.unusedVariables false
set_option linter.unusedSimpArgs false
set_option maxRecDepth 20000
set_option maxHeartbeats 4000000
attribute [local irreducible] wOps wA wSeq wBlk wRound wRoundI wOpsD wOpsS
variable {HK : FuncId → Option Hook}

/-! ### Ints -/
def I14 (h0 : Heap) (a b : SV) (n : Nat) (E : Env) (h : Heap) : Prop := h = h0 ∧ ∃ i : Nat, i ≤ n ∧ E = [(0, some (.sc a)), (1, some (.sc b)), (5, some (.sc (.int .i64 (i : Nat))))]
def R14 (h0 : Heap) (ex : Ex) (E : Env) (h : Heap) : Prop := ex = .ex 0 ∧ h = h0 ∧ ∃ a b c d, E = [(0, a), (1, b), (5, c), (14, d)]
theorem round14 (h0 : Heap) (a b : SV) (xs : List Int) (ha : IsInts h0 a xs) (hb : IsInts h0 b xs) (hl : xs.length ≤ 100000) (E : Env) (h : Heap) (hI : I14 h0 a b xs.length E h) :
    wA FT HK b14L0 (E.keep [0, 1, 5]) h (wRound (I14 h0 a b xs.length) (cntD xs.length 5) (cntD xs.length 5 E h) (R14 h0)) := by
  obtain ⟨rfl, i, hi, rfl⟩ := hI
  have la := IsSl.len ha
  by_cases hlt : i < xs.length
  · obtain ⟨x, hx⟩ : ∃ x, xs[i]? = some x := ⟨_, List.getElem?_eq_getElem hlt⟩
    obtain ⟨id1, o1, c1, rfl, r1⟩ := IsInts.at ha hx
    obtain ⟨id2, o2, c2, rfl, r2⟩ := IsInts.at hb hx
    repeat' (first | refine w_seq ?_ | refine w_seqN ?_ | refine w_blk ?_ | refine w_blkN ?_ | refine w_skip ?_ | refine w_ops ?_ | refine w_opsD ?_ | refine d_one ?_ | refine d_nil ?_ | ((refine i_cond ?_); first | refine w_condT rfl ?_ | refine w_condF rfl ?_) | ((refine i_nil ?_); first | refine d_same ?_ | refine w_end3 rfl rfl rfl ?_ | refine w_end4 rfl rfl rfl rfl ?_) | ((refine i_cons ?_); first | refine k_len rfl la ?_ | (refine k_idxA (esz := 1) rfl rfl (by omega) ?_) | refine k_ld rfl r1 ?_ | refine k_ld rfl r2 ?_ | refine k_mv rfl ?_ | refine k_add rfl rfl (by omega) ?_ | refine k_lssT rfl rfl (by omega) ?_ | refine k_neqF rfl rfl (by omega) ?_))
    exact w_roundN ⟨rfl, i + 1, by omega, rfl⟩ (by simp [cntD, Env.get]; omega)
  · have : i = xs.length := by omega
    subst this
    repeat' (first | refine w_seq ?_ | refine w_seqN ?_ | refine w_seqX ?_ | refine w_exit ?_ | refine w_ops ?_ | ((refine i_cond ?_); refine w_condF rfl ?_) | ((refine i_nil ?_); refine w_end4 rfl rfl rfl rfl ?_) | ((refine i_cons ?_); first | refine k_len rfl la ?_ | refine k_mv rfl ?_ | refine k_lssF rfl rfl (by omega) ?_))
    exact w_roundX ⟨rfl, rfl, _, _, _, _, rfl⟩
theorem call14 (hk : HK 14 = none) (h0 : Heap) (a b : SV) (xs : List Int) (ha : IsInts h0 a xs) (hb : IsInts h0 b xs) (hl : xs.length ≤ 100000) :
    ∃ v h', Cal FT HK 14 [.sc a, .sc b] h0 v h' ∧ v = .sc (.bool true) ∧ h' = h0 := by
  refine Cal.of (F := a14) hk rfl rfl ?_
  have la := IsSl.len ha
  have lb := IsSl.len hb
  repeat' (first | refine w_seq ?_ | refine w_seqN ?_ | refine w_blk ?_ | refine w_skip ?_ | refine w_ops ?_ | ((refine i_cond ?_); refine w_condF rfl ?_) | ((refine i_nil ?_); first | refine w_end2 rfl rfl ?_ | refine w_end3 rfl rfl rfl ?_) | ((refine i_cons ?_); first | refine k_len rfl la ?_ | refine k_len rfl lb ?_ | refine k_mv rfl ?_ | refine k_neqF rfl rfl (by omega) ?_))
  refine w_loop (I14 h0 a b xs.length) (cntD xs.length 5) (R14 h0) ⟨rfl, 0, Nat.zero_le _, rfl⟩ (round14 h0 a b xs ha hb hl) ?_
  rintro ex E' h1 ⟨rfl, rfl, x, y, z, w, rfl⟩
  repeat' (first | refine w_seq ?_ | refine w_seqN ?_ | refine w_blkX ?_ | refine w_ret ?_ | refine w_ops ?_ | ((refine i_nil ?_); refine w_end1 rfl ?_) | ((refine i_cons ?_); refine k_mv rfl ?_))
  exact ⟨.inr rfl, rfl, rfl⟩
/-! ### Diagram -/
def DgR (vs : List Int) (h0 : Heap) (v : AV) (h' : Heap) : Prop := Ext h0 h' ∧
  ((¬ Good vs ∧ v = .tup [.agg [.nilS, .nilS, .int .i64 0], .sc (.int .i64 3)]) ∨ (Good vs ∧ 14 < vs.length ∧ v = .tup [.agg [.nilS, .nilS, .int .i64 0], .sc (.int .i64 5)]) ∨
    (Good vs ∧ vs.length ≤ 14 ∧ (∀ q ∈ cands [] vs.length, ¬ Pd vs q) ∧ v = .tup [.agg [.nilS, .nilS, .int .i64 0], .sc (.int .i64 7)]) ∨
    (Good vs ∧ vs.length ≤ 14 ∧ ∃ t m L, FirstIs (Pd vs) (cands [] vs.length) L ∧ (∃ r, L = 1 :: r) ∧ v = .tup [.agg [t, m, .int .i64 0], .sc (.int .i64 0)] ∧ IsInts h' t L ∧ IsInts h' m (mtD vs L)))
theorem dg_err {k : Int} (hk0 : k ≠ 0) (hk19 : HK 19 = none) (h0 : Heap) (o : SV) (vs : List Int) (k18 : ∀ H, Ext h0 H → ∃ v h', Cal FT HK 18 [.sc o] H v h' ∧ SgR vs H v h')
    (hS : ∀ (h1 : Heap) (v : AV) (h' : Heap), SgR vs h1 v h' → v = .tup [.sc .nilS, .sc (.int .i64 k)]) :
    ∃ v h', Cal FT HK 19 [.sc o] h0 v h' ∧ Ext h0 h' ∧ v = .tup [.agg [.nilS, .nilS, .int .i64 0], .sc (.int .i64 k)] := by
  refine Cal.of (F := a19) hk19 rfl rfl ?_
  repeat' (first | refine w_seq ?_ | refine w_seqN ?_ | refine w_seqR ?_ | refine w_ret ?_ | refine w_ops ?_ | ((refine i_cond ?_); refine w_condT rfl ?_) | ((refine i_nil ?_); first | refine w_end2 rfl rfl ?_ | refine w_end4 rfl rfl rfl rfl ?_ | refine w_end5 rfl rfl rfl rfl rfl ?_) | ((refine i_cons ?_); first | (refine k_new3 ?_; intro h1 e1 l1 c1) | (refine k_call rfl (k18 h1 e1) ?_; intro v h2 q; obtain rfl := hS _ _ _ q; obtain ⟨e2, -⟩ := q; have c2 := c1.ext e2) | (refine k_st3e (hx := h0) rfl rfl c2 (e1.trans e2) (Nat.le_refl _) ?_; intro h3 e3 c3) | refine k_mv rfl ?_ | refine k_neqT rfl rfl (by omega) ?_ | refine k_ok rfl rfl ?_))
  exact ⟨.inr rfl, oK_cellt rfl c3.read rfl ⟨e3, rfl⟩⟩
theorem call19 (hk19 : HK 19 = none) (hk18 : HK 18 = none) (hk16 : HK 16 = none) (hk33 : HK 33 = none) (hk34 : HK 34 = none) (hk45 : HK 45 = none) (hk26 : HK 26 = none) (hk37 : HK 37 = none) (hk38 : HK 38 = none) (hk46 : HK 46 = none) (hk47 : HK 47 = none) (h0 : Heap) (o : SV) (vs : List Int) (ho : IsInts h0 o vs) :
    ∃ v h', Cal FT HK 19 [.sc o] h0 v h' ∧ DgR vs h0 v h' := by
  have k18 := fun H (e : Ext h0 H) => call18 (HK := HK) hk18 hk16 hk33 hk34 hk45 hk26 hk37 hk38 hk46 hk47 H o vs (IsSl.ext ho e)
  by_cases hg : Good vs
  · by_cases h14 : vs.length ≤ 14
    · by_cases hn : ∀ q ∈ cands [] vs.length, ¬ Pd vs q
      · obtain ⟨v, h', c, e, q⟩ := dg_err (k := 7) (by omega) hk19 h0 o vs k18 (by
          rintro h1 v h' ⟨e, ⟨x, _⟩ | ⟨_, x, _⟩ | ⟨_, _, _, x⟩ | ⟨_, _, S, L, ⟨A, B, x, y, z⟩, _⟩⟩
          · exact absurd hg x
          · omega
          · exact x
          · exact absurd y (hn L (by rw [x]; simp)))
        exact ⟨v, h', c, e, .inr (.inr (.inl ⟨hg, h14, hn, q⟩))⟩
      · have hS : ∀ {h1 : Heap} {v : AV} {h' : Heap}, SgR vs h1 v h' → ∃ S L, FirstIs (Pd vs) (cands [] vs.length) L ∧ (∃ r, L = 1 :: r) ∧ v = .tup [.sc S, .sc (.int .i64 0)] ∧ IsInts h' S L ∧ Ext h1 h' := by
          rintro h1 v h' ⟨e, ⟨x, _⟩ | ⟨_, x, _⟩ | ⟨_, _, x, _⟩ | ⟨_, _, S, L, x1, x2, x3, x4⟩⟩
          · exact absurd hg x
          · omega
          · exact absurd x hn
          · exact ⟨S, L, x1, x2, x3, x4, e⟩
        refine Cal.of (F := a19) hk19 rfl rfl ?_
        repeat' (first | refine w_seq ?_ | refine w_seqN ?_ | refine w_skip ?_ | refine w_ret ?_ | refine w_ops ?_ | ((refine i_cond ?_); refine w_condF rfl ?_) | ((refine i_nil ?_); first | refine w_end2 rfl rfl ?_ | refine w_end4 rfl rfl rfl rfl ?_ | refine w_end5 rfl rfl rfl rfl rfl ?_) | ((refine i_cons ?_); first | (refine k_new3 ?_; intro h1 e1 l1 c1) | (refine k_call rfl (k18 h1 e1) ?_; intro v h2 q; obtain ⟨S, L, hF, hL, rfl, iS, e2⟩ := hS q; have c2 := c1.ext e2; have k34 := call34 hk34 hk45 h2 o S vs L hg (by obtain ⟨A, B, x, y, z⟩ := hF; have := (cands_mem (q := L) (p := []) (k := vs.length) (by rw [x]; simp)).1; simpa using this) (IsSl.ext ho (e1.trans e2)) iS) | (refine k_call rfl k34 ?_; rintro v h3 ⟨e3, t, m, rfl, it, im, ft, fm⟩; have c3 := c2.ext e3) | (refine k_st3 rfl rfl c3 ?_; intro h4 q4 c4) | refine k_mv rfl ?_ | refine k_neqF rfl rfl (by omega) ?_ | refine k_ok rfl rfl ?_))
        have n1 := e1.len
        have n2 := e2.len
        have tq : NotAt t h0.length := ft _ (by omega)
        have mq : NotAt m h0.length := fm _ (by omega)
        refine ⟨.inr rfl, oK_cellt rfl c4.read rfl ⟨?_, .inr (.inr (.inr ⟨hg, h14, t, m, L, hF, hL, rfl, ?_, ?_⟩))⟩⟩
        · rw [q4]; exact (e1.trans (e2.trans e3)).set (Nat.le_refl _) _
        · rw [q4]
          exact IsSl.keep it fun j b hj hn => by rw [List.getElem?_set_ne (fun e => by subst e; exact hn tq)]; exact hj
        · rw [q4]
          exact IsSl.keep im fun j b hj hn => by rw [List.getElem?_set_ne (fun e => by subst e; exact hn mq)]; exact hj
    · obtain ⟨v, h', c, e, q⟩ := dg_err (k := 5) (by omega) hk19 h0 o vs k18 (by
        rintro h1 v h' ⟨e, ⟨x, _⟩ | ⟨_, x, y⟩ | ⟨_, x, _⟩ | ⟨_, x, _⟩⟩
        · exact absurd hg x
        · exact y
        · exact absurd x h14
        · exact absurd x h14)
      exact ⟨v, h', c, e, .inr (.inl ⟨hg, by omega, q⟩)⟩
  · obtain ⟨v, h', c, e, q⟩ := dg_err (k := 3) (by omega) hk19 h0 o vs k18 (by
      rintro h1 v h' ⟨e, ⟨x, y⟩ | ⟨x, _⟩ | ⟨x, _⟩ | ⟨x, _⟩⟩
      · exact y
      · exact absurd x hg
      · exact absurd x hg
      · exact absurd x hg)
    exact ⟨v, h', c, e, .inl ⟨hg, q⟩⟩
/-! ### Equal -/
end Go.Proofs.Ytooafhbjbpaacaa
