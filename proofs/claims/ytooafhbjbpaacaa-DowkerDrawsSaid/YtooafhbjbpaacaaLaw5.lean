/- The law DowkerDraws, reckoned. -/
import Derived.Test.YtooafhbjbpaacaaD6
import Derived.Test.YtooafhbjbpaacaaValid
namespace Go.Proofs.Ytooafhbjbpaacaa
open Go.Ab
set_option linter.unusedVariables false
set_option linter.unusedSimpArgs false
set_option maxRecDepth 20000
set_option maxHeartbeats 4000000
attribute [local irreducible] wOps wA wSeq wBlk wRound wRoundI wOpsD wOpsS

theorem sgF {vs : List Int} (hg : ¬ Good vs) {h0 : Heap} {v : AV} {h' : Heap} (q : SgR vs h0 v h') : v = .tup [.sc .nilS, .sc (.int .i64 3)] ∧ Ext h0 h' := by
  obtain ⟨e, ⟨x, y⟩ | ⟨x, _⟩ | ⟨x, _⟩ | ⟨x, _⟩⟩ := q
  · exact ⟨y, e⟩
  · exact absurd x hg
  · exact absurd x hg
  · exact absurd x hg
theorem dgF {vs : List Int} (hg : ¬ Good vs) {h0 : Heap} {v : AV} {h' : Heap} (q : DgR vs h0 v h') : v = .tup [.agg [.nilS, .nilS, .int .i64 0], .sc (.int .i64 3)] ∧ Ext h0 h' := by
  obtain ⟨e, ⟨x, y⟩ | ⟨x, _⟩ | ⟨x, _⟩ | ⟨x, _⟩⟩ := q
  · exact ⟨y, e⟩
  · exact absurd x hg
  · exact absurd x hg
  · exact absurd x hg
theorem sgN {vs : List Int} (hg : Good vs) (h14 : vs.length ≤ 14) (hn : ∀ q ∈ cands [] vs.length, ¬ Pd vs q) {h0 : Heap} {v : AV} {h' : Heap} (q : SgR vs h0 v h') : v = .tup [.sc .nilS, .sc (.int .i64 7)] ∧ Ext h0 h' := by
  obtain ⟨e, ⟨x, _⟩ | ⟨_, x, _⟩ | ⟨_, _, _, x⟩ | ⟨_, _, S, L, ⟨A, B, x, y, z⟩, _⟩⟩ := q
  · exact absurd hg x
  · omega
  · exact ⟨x, e⟩
  · exact absurd y (hn L (by rw [x]; simp))
theorem dgN {vs : List Int} (hg : Good vs) (h14 : vs.length ≤ 14) (hn : ∀ q ∈ cands [] vs.length, ¬ Pd vs q) {h0 : Heap} {v : AV} {h' : Heap} (q : DgR vs h0 v h') : v = .tup [.agg [.nilS, .nilS, .int .i64 0], .sc (.int .i64 7)] ∧ Ext h0 h' := by
  obtain ⟨e, ⟨x, _⟩ | ⟨_, x, _⟩ | ⟨_, _, _, x⟩ | ⟨_, _, S, M, L, ⟨A, B, x, y, z⟩, _⟩⟩ := q
  · exact absurd hg x
  · omega
  · exact ⟨x, e⟩
  · exact absurd y (hn L (by rw [x]; simp))
theorem sgY {vs : List Int} (hg : Good vs) (h14 : vs.length ≤ 14) (hn : ¬ ∀ q ∈ cands [] vs.length, ¬ Pd vs q) {h0 : Heap} {v : AV} {h' : Heap} (q : SgR vs h0 v h') :
    ∃ S L, FirstIs (Pd vs) (cands [] vs.length) L ∧ (∃ r, L = 1 :: r) ∧ v = .tup [.sc S, .sc (.int .i64 0)] ∧ IsInts h' S L ∧ Ext h0 h' := by
  obtain ⟨e, ⟨x, _⟩ | ⟨_, x, _⟩ | ⟨_, _, x, _⟩ | ⟨_, _, S, L, x1, x2, x3, x4⟩⟩ := q
  · exact absurd hg x
  · omega
  · exact absurd x hn
  · exact ⟨S, L, x1, x2, x3, x4, e⟩
theorem dgY {vs : List Int} (hg : Good vs) (h14 : vs.length ≤ 14) (hn : ¬ ∀ q ∈ cands [] vs.length, ¬ Pd vs q) {h0 : Heap} {v : AV} {h' : Heap} (q : DgR vs h0 v h') :
    ∃ t m L, FirstIs (Pd vs) (cands [] vs.length) L ∧ (∃ r, L = 1 :: r) ∧ v = .tup [.agg [t, m, .int .i64 0], .sc (.int .i64 0)] ∧ IsInts h' t L ∧ IsInts h' m (mtD vs L) ∧ Ext h0 h' := by
  obtain ⟨e, ⟨x, _⟩ | ⟨_, x, _⟩ | ⟨_, _, x, _⟩ | ⟨_, _, t, m, L, x1, x2, x3, x4, x5⟩⟩ := q
  · exact absurd hg x
  · omega
  · exact absurd x hn
  · exact ⟨t, m, L, x1, x2, x3, x4, x5, e⟩
theorem first_uniq {P : List Int → Prop} {C : List (List Int)} {a b : List Int} (ha : FirstIs P C a) (hb : FirstIs P C b) : a = b := by
  obtain ⟨r, e1⟩ := ha.oks
  obtain ⟨r', e2⟩ := hb.oks
  rw [e1] at e2
  exact (List.cons.inj e2).1
theorem first_ln {P : List Int → Prop} {n : Nat} {L : List Int} (h : FirstIs P (cands [] n) L) : L.length = n := by
  obtain ⟨A, B, x, y, z⟩ := h
  have := (cands_mem (q := L) (p := []) (k := n) (by rw [x]; simp)).1
  simpa using this
theorem al_first {h4 h5 : Heap} {X : SV} {L : List Int} {r : List (List Int)} (al : Al h4 h5 X (L :: r)) : ∃ (n id : Nat) (cap : Option Nat) (t : SV), 1 ≤ n ∧ X = .slc id 0 n cap ∧ lenS false X = some (n : Int) ∧ readN h5 id (0 + (0 : Int).toNat * 1) 1 = some [t] ∧ IsInts h5 t L := by
  obtain ⟨ss, x1, x2, x3⟩ := al
  cases ss with
  | nil => simp at x1
  | cons t ss =>
    obtain ⟨id, cap, hX, hr⟩ := x2.rd (i := 0) (v := t) rfl
    exact ⟨(t :: ss).length, id, cap, t, by simp, hX, Own.len x2, hr, (x3 0 t L rfl rfl).1⟩
theorem mtD_ln (vs q : List Int) : (mtD vs q).length = 4 * vs.length := mtT_len vs.length (inD vs q vs.length) (outD vs q vs.length) (2 * vs.length)
theorem call5 (h0 : Heap) (s : SV) (xs : List Int) (hs : IsInts h0 s xs) : ∃ v h', Cal FT HK1 5 [.sc s] h0 v h' ∧ v = .sc (.bool true) := by
  refine Cal.of (F := a5) rfl rfl rfl ?_
  have lo := IsSl.len hs
  have aw := awake_call h0
  by_cases h7 : xs.length ≤ 7
  · have k18 := fun H (e : Ext h0 H) => call18 (HK := HK1) rfl rfl rfl rfl rfl rfl rfl rfl rfl rfl H s xs (IsSl.ext hs e)
    have k19 := fun H (e : Ext h0 H) => call19 (HK := HK1) rfl rfl rfl rfl rfl rfl rfl rfl rfl rfl rfl H s xs (IsSl.ext hs e)
    have k17 := fun H (e : Ext h0 H) => call17 (HK := HK1) rfl H s xs (IsSl.ext hs e)
    by_cases hg : Good xs
    · have k20 := fun H (e : Ext h0 H) => call20 (HK := HK1) rfl rfl rfl rfl rfl rfl rfl rfl rfl H s xs hg (by omega) (IsSl.ext hs e)
      have hgT : ∀ {h1 : Heap} {v : AV} {h' : Heap}, BoolIff (RefGood xs) h1 v h' → v = .sc (.bool true) ∧ Ext h1 h' := fun {h1 v h'} q => by
        obtain ⟨e, b, rfl, hq⟩ := q
        rw [hq.2 ((good_iff xs).1 hg)]; exact ⟨rfl, e⟩
      by_cases hn : ∀ q ∈ cands [] xs.length, ¬ Pd xs q
      · have hz := oks_none hn
        repeat' (first | refine w_seq ?_ | refine w_seqN ?_ | refine w_seqR ?_ | refine w_skip ?_ | refine w_ret ?_ | refine w_ops ?_ | ((refine i_cond ?_); first | refine w_condT rfl ?_ | refine w_condF rfl ?_) | ((refine i_nil ?_); first | refine w_end1 rfl ?_ | refine w_end2 rfl rfl ?_ | refine w_end3 rfl rfl rfl ?_ | refine w_end5 rfl rfl rfl rfl rfl ?_ | refine w_end6 rfl rfl rfl rfl rfl rfl ?_ | refine w_end7 rfl rfl rfl rfl rfl rfl rfl ?_) | ((refine i_cons ?_); first | (refine k_call rfl aw ?_; rintro v hh ⟨rfl, rfl⟩) | refine k_len rfl lo ?_ | (refine k_call rfl (k18 _ (Ext.refl _)) ?_; intro v h1 q; obtain ⟨rfl, e1⟩ := sgN hg (by omega) hn q) | (refine k_call rfl (k19 h1 e1) ?_; intro v h2 q2; obtain ⟨rfl, e2⟩ := dgN hg (by omega) hn q2) | (refine k_newst3 rfl ?_; intro h3 e3 b3) | (refine k_call rfl (k17 h3 (e1.trans (e2.trans e3))) ?_; intro v h4 q4; obtain ⟨rfl, e4⟩ := hgT q4) | (refine k_call rfl (k20 h4 (e1.trans (e2.trans (e3.trans e4)))) ?_; rintro v h5 ⟨e5, X, rfl, al⟩; rw [hz] at al; obtain ⟨ss, x1, x2, x3⟩ := al; have lX := Own.len x2; rw [x1, show (([] : List (List Int)).length : Int) = 0 from rfl] at lX; have b5 := (b3.ext e4).ext e5) | refine k_len rfl lX ?_ | refine k_fldA rfl ?_ | refine k_ldb rfl b5 rfl ?_ | refine k_want rfl ?_ | refine k_mv rfl ?_ | refine k_pickT rfl rfl ?_ | refine k_notT rfl ?_ | refine k_gtrF rfl rfl (by omega) ?_ | refine k_eqlT rfl rfl (by omega) ?_ | refine k_neqT rfl rfl (by omega) ?_ | refine k_neqF rfl rfl (by omega) ?_ | refine k_len rfl rfl ?_ | refine k_ok rfl rfl ?_))
        exact ⟨.inr rfl, rfl⟩
      · repeat' (first | refine w_seq ?_ | refine w_seqN ?_ | refine w_skip ?_ | refine w_ret ?_ | refine w_ops ?_ | refine w_opsD ?_ | refine d_one ?_ | refine d_nil ?_ | ((refine i_cond ?_); refine w_condF rfl ?_) | ((refine i_nil ?_); first | refine d_same ?_ | refine d_ord ?_ | refine d_ext (by assumption) ?_ | refine w_end1 rfl ?_ | refine w_end2 rfl rfl ?_ | refine w_end3 rfl rfl rfl ?_ | refine w_end5 rfl rfl rfl rfl rfl ?_ | refine w_end6 rfl rfl rfl rfl rfl rfl ?_ | refine w_end7 rfl rfl rfl rfl rfl rfl rfl ?_) | ((refine i_cons ?_); first | (refine k_call rfl aw ?_; rintro v hh ⟨rfl, rfl⟩) | refine k_len rfl lo ?_ | (refine k_call rfl (k18 _ (Ext.refl _)) ?_; intro v h1 q; obtain ⟨S, L, hF, hL, rfl, iS, e1⟩ := sgY hg (by omega) hn q) | (refine k_call rfl (k19 h1 e1) ?_; intro v h2 q2; obtain ⟨t, m, L', hF', hL', rfl, it, im, e2⟩ := dgY hg (by omega) hn q2; obtain rfl := first_uniq hF hF') | (refine k_newst3 rfl ?_; intro h3 e3 b3) | (refine k_call rfl (k17 h3 (e1.trans (e2.trans e3))) ?_; intro v h4 q4; obtain ⟨rfl, e4⟩ := hgT q4) | (refine k_call rfl (k20 h4 (e1.trans (e2.trans (e3.trans e4)))) ?_; rintro v h5 ⟨e5, X, rfl, al⟩; obtain ⟨r, hz⟩ := hF.oks; rw [hz] at al; obtain ⟨n, id, cap, u, hn1, rfl, lX, rX, iu⟩ := al_first al; have b5 := (b3.ext e4).ext e5; have hLn := first_ln hF; have k14 := call14 (HK := HK1) rfl h5 S u L (IsSl.ext iS (e2.trans (e3.trans (e4.trans e5)))) iu (by omega); have k22 := call22 (HK := HK1) rfl rfl h5 s u xs L hg hLn (IsSl.ext hs (e1.trans (e2.trans (e3.trans (e4.trans e5))))) iu) | refine k_len rfl lX ?_ | (refine k_idxA (esz := 1) rfl rfl (by omega) ?_) | refine k_ld rfl rX ?_ | (refine k_call rfl k14 ?_; rintro v _ ⟨rfl, rfl⟩) | refine k_ldA rfl b5 rfl ?_ | (refine k_call rfl k22 ?_; rintro v h6 ⟨e6, t6, m6, rfl, it6, im6⟩; have k21 := call21 (HK := HK1) rfl rfl h6 t m t6 m6 L (mtD xs L) 0 (IsSl.ext it (e3.trans (e4.trans (e5.trans e6)))) (IsSl.ext im (e3.trans (e4.trans (e5.trans e6)))) it6 im6 (by omega) (by rw [mtD_ln]; omega)) | (refine k_call rfl k21 ?_; rintro v h7 ⟨rfl, e7⟩) | refine k_want rfl ?_ | refine k_mv rfl ?_ | refine k_pickT rfl rfl ?_ | refine k_notT rfl ?_ | refine k_gtrF rfl rfl (by omega) ?_ | refine k_eqlT rfl rfl (by omega) ?_ | refine k_eqlF rfl rfl (by omega) ?_ | refine k_neqF rfl rfl (by omega) ?_ | refine k_ok rfl rfl ?_))
        exact ⟨.inr rfl, rfl⟩
    · have hgF : ∀ {h1 : Heap} {v : AV} {h' : Heap}, BoolIff (RefGood xs) h1 v h' → v = .sc (.bool false) ∧ Ext h1 h' := fun {h1 v h'} q => by
        obtain ⟨e, b, rfl, hq⟩ := q
        cases b with
        | false => exact ⟨rfl, e⟩
        | true => exact absurd ((good_iff xs).2 (hq.1 rfl)) hg
      repeat' (first | refine w_seq ?_ | refine w_seqN ?_ | refine w_seqR ?_ | refine w_skip ?_ | refine w_ret ?_ | refine w_ops ?_ | ((refine i_cond ?_); first | refine w_condT rfl ?_ | refine w_condF rfl ?_) | ((refine i_nil ?_); first | refine w_end1 rfl ?_ | refine w_end2 rfl rfl ?_ | refine w_end3 rfl rfl rfl ?_ | refine w_end5 rfl rfl rfl rfl rfl ?_ | refine w_end6 rfl rfl rfl rfl rfl rfl ?_ | refine w_end7 rfl rfl rfl rfl rfl rfl rfl ?_) | ((refine i_cons ?_); first | (refine k_call rfl aw ?_; rintro v hh ⟨rfl, rfl⟩) | refine k_len rfl lo ?_ | (refine k_call rfl (k18 _ (Ext.refl _)) ?_; intro v h1 q; obtain ⟨rfl, e1⟩ := sgF hg q) | (refine k_call rfl (k19 h1 e1) ?_; intro v h2 q2; obtain ⟨rfl, e2⟩ := dgF hg q2) | (refine k_newst3 rfl ?_; intro h3 e3 b3) | (refine k_call rfl (k17 h3 (e1.trans (e2.trans e3))) ?_; intro v h4 q4; obtain ⟨rfl, e4⟩ := hgF q4; have b5 := b3.ext e4) | refine k_fldA rfl ?_ | refine k_ldb rfl b5 rfl ?_ | refine k_want rfl ?_ | refine k_mv rfl ?_ | refine k_pickT rfl rfl ?_ | refine k_notT rfl ?_ | refine k_notF rfl ?_ | refine k_gtrF rfl rfl (by omega) ?_ | refine k_eqlT rfl rfl (by omega) ?_ | refine k_neqT rfl rfl (by omega) ?_ | refine k_neqF rfl rfl (by omega) ?_ | refine k_len rfl rfl ?_ | refine k_ok rfl rfl ?_))
      exact ⟨.inr rfl, rfl⟩
  · repeat' (first | refine w_seq ?_ | refine w_seqN ?_ | refine w_seqR ?_ | refine w_skip ?_ | refine w_ret ?_ | refine w_ops ?_ | ((refine i_cond ?_); first | refine w_condT rfl ?_ | refine w_condF rfl ?_) | ((refine i_nil ?_); first | refine w_end1 rfl ?_ | refine w_end2 rfl rfl ?_) | ((refine i_cons ?_); first | (refine k_call rfl aw ?_; rintro v hh ⟨rfl, rfl⟩) | refine k_len rfl lo ?_ | refine k_mv rfl ?_ | refine k_notT rfl ?_ | refine k_gtrT rfl rfl (by omega) ?_))
    exact ⟨.inr rfl, rfl⟩
end Go.Proofs.Ytooafhbjbpaacaa
