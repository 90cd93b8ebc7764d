/- The law DowkerBack, reckoned. -/
import Derived.Test.YtooafhbjbpaacaaLaw8
namespace Go.Proofs.Ytooafhbjbpaacaa
open Go.Ab
set_option linter.unusedVariables false
set_option linter.unusedSimpArgs false
set_option maxRecDepth 20000
set_option maxHeartbeats 4000000
attribute [local irreducible] wOps wA wSeq wBlk wRound wRoundI wOpsD wOpsS

theorem good_refgood {vs : List Int} (hg : Good vs) : RefGood vs := (good_iff vs).1 hg
theorem refT {us : List Int} {h1 : Heap} {v : AV} {h' : Heap} (hu : Good us) (q : BoolIff (RefGood us) h1 v h') : v = .sc (.bool true) ∧ Ext h1 h' := by
  obtain ⟨e, b, rfl, hq⟩ := q
  rw [hq.2 (good_refgood hu)]; exact ⟨rfl, e⟩
theorem mrL_mates {xs ms : List Int} {n : Nat} (hn : n ≤ 64) (lm : ms.length = 4 * n) (mm : Mates ms) : Mates (mrL ms ms.length) ∧ ∀ h, h < 4 * n → mateN (mrL ms ms.length) (mu h) = mu (mateN ms h) := by
  have key : ∀ h, h < 4 * n → mateN (mrL ms ms.length) (mu h) = mu (mateN ms h) := fun h hh => by
    have h1 := mrL_get lm (Nat.le_of_eq lm) h (by rw [lm]; exact hh)
    unfold mateN at h1 ⊢
    rw [h1]; simp
  refine ⟨⟨by rw [mrL_len]; omega, by rw [mrL_len]; omega, fun h hh => ?_⟩, key⟩
  rw [mrL_len, lm] at hh
  have h1 := mrL_get lm (Nat.le_of_eq lm) (mu h) (by rw [lm]; exact mu_lt hh)
  rw [mu_mu] at h1
  refine ⟨mu (mateN ms (mu h)), ?_, by rw [mrL_len, lm]; exact mu_lt (by have := (mate_lt mm (h := mu h) (by rw [lm]; exact mu_lt hh)).1; omega)⟩
  rw [← h1, List.getD_eq_getElem?_getD, List.getElem?_eq_getElem (by rw [mrL_len]; omega)]; rfl
/-- A correspondence, of the mirror images. -/
theorem iso_mu {n : Nat} {vs L xs ms : List Int} {nu : Nat → Nat} (hl : vs.length = n) (hn : n ≤ 64) (s1 : ∀ i, i < vs.length → Sgn (L.getD i 0)) (hg : Good vs) (lm : ms.length = 4 * n) (mm : Mates ms) (I : Iso n L xs (mtD vs L) ms nu) : Iso n (negL L) (negL xs) (mtD vs (negL L)) (mrL ms ms.length) nu := by
  have hr : ∀ h, 4 * nu (mu h / 4) + mu h % 4 = mu (4 * nu (h / 4) + h % 4) := fun h => by
    unfold mu
    rw [show (4 * (h / 4) + (4 - h % 4) % 4) / 4 = h / 4 by omega]; omega
  refine ⟨I.lt, fun h hh => ?_, fun c hc => by rw [negL_getD, negL_getD, I.sgn c hc]⟩
  obtain ⟨_, key⟩ := mrL_mates (xs := xs) hn lm mm
  have hmu := mu_lt hh
  have i1 := I.mate (mu h) hmu
  have e1 := I.lt (h / 4) (by omega)
  have k1 := key (4 * nu (mu h / 4) + mu h % 4) (by rw [mu_div]; omega)
  rw [hr, mu_mu] at k1
  have e2 := mtD_mu s1 (h := mu h) (by rw [hl]; exact hmu)
  rw [mu_mu] at e2
  rw [k1, ← hr, i1, e2, hr]
theorem call6 (h0 : Heap) (s : SV) (xs : List Int) (hx : IsInts h0 s xs) (m : SV) (ms : List Int) (hs : IsInts h0 m ms) (l : Int) (hl : -9223372036854775808 ≤ l ∧ l ≤ 9223372036854775807) : ∃ v h', Cal FT HK1 6 [.agg [s, m, .int .i64 l]] h0 v h' ∧ v = .sc (.bool true) := by
  refine Cal.of (F := a6) rfl rfl rfl ?_
  have aw := fun H => awake_call3 H
  have k13 := fun H (e : Ext h0 H) => call13 (HK := HK1) rfl rfl rfl rfl rfl rfl rfl rfl rfl H s m l xs ms (IsSl.ext hx e) (IsSl.ext hs e) 7
  by_cases hk : KnP xs ms l ∧ xs.length ≤ 7
  · obtain ⟨hkn, h7⟩ := hk
    obtain rfl := hkn.2.2.1
    obtain ⟨S, T, h1s, hC⟩ := kn_tour hkn
    have hV := hkn.1
    have hF := hV.1
    have h1n := hkn.2.1
    have k11 := fun H (e : Ext h0 H) => call11 (HK := HK1) rfl rfl rfl rfl rfl rfl rfl rfl rfl rfl rfl rfl H s m xs ms (IsSl.ext hx e) (IsSl.ext hs e) hV h1n hF.n64 rfl T.st h1s
    have gc := cdD_good h1n hF.n64 T.st
    have hlC : (cdD xs.length S (2 * xs.length)).length = xs.length := by rw [cdD_len]; omega
    have pd := tour_pd hV h1n T hC
    have cd := sgS_c hF T
    have iso := tour_iso hF h1n T
    generalize cdD xs.length S (2 * xs.length) = C at *
    generalize sgS xs S = L0 at *
    generalize (fun i => S (2 * i) / 4) = nu at *
    have cd' : L0 ∈ cands [] C.length := by rw [hlC]; exact cd
    have hn : ¬ ∀ q ∈ cands [] C.length, ¬ Pd C q := fun h => h L0 cd' pd
    have aa := fun (H1 H2 : Heap) => awake_call3 H1
    by_cases hl2 : (oksD (Pd C) (cands [] C.length)).length = 2
    · repeat' (first | refine w_seq ?_ | refine w_seqN ?_ | refine w_skip ?_ | refine w_ops ?_ | refine w_opsD ?_ | refine d_one ?_ | ((refine i_cond ?_); refine w_condF rfl ?_) | ((refine i_nil ?_); first | refine d_same ?_ | refine w_end1 rfl ?_ | refine w_end2 rfl rfl ?_ | refine w_end3 rfl rfl rfl ?_ | refine w_end4 rfl rfl rfl rfl ?_) | ((refine i_cons ?_); first | (refine k_box rfl rfl ?_; intro h1 e1 l1 b1) | (refine k_call rfl (aw _) ?_; rintro v _ ⟨rfl, rfl⟩) | refine k_ldA rfl b1 rfl ?_ | (refine k_call rfl (k13 _ e1) ?_; rintro v h2 ⟨e2, bb, rfl, hq⟩; obtain rfl := hq.2 ⟨hkn, h7⟩; have b2 := b1.ext e2) | refine k_ldA rfl b2 rfl ?_ | (refine k_call rfl (k11 h2 (e1.trans e2)) ?_; rintro v h3 ⟨e3, t, rfl, it⟩; have b3 := b2.ext e3) | (refine k_call rfl (call17 (HK := HK1) rfl h3 t C it) ?_; intro v h4 q; obtain ⟨rfl, e4⟩ := refT gc q) | (refine k_call rfl (call19 (HK := HK1) rfl rfl rfl rfl rfl rfl rfl rfl rfl rfl rfl h4 t C (IsSl.ext it e4)) ?_; intro v h5 q5; obtain ⟨t', m', L, hFi, hL1, rfl, it', im', e5⟩ := dgY gc (by omega) hn q5) | (refine k_newst3 rfl ?_; intro h6 e6 b6) | (refine k_call rfl (call20 (HK := HK1) rfl rfl rfl rfl rfl rfl rfl rfl rfl h6 t C gc (by omega) (IsSl.ext it (e4.trans (e5.trans e6)))) ?_; rintro v h8 ⟨e8, X, rfl, al⟩; obtain ⟨ss, x1, x2, x3⟩ := al; have lX := Own.len x2; rw [x1] at lX) | refine k_len rfl lX ?_ | (have b8 := b6.ext e8; refine k_ldA rfl b8 rfl ?_) | (have b8 := ((((b3.ext e4).ext e5).ext e6).ext e8); refine k_ldA rfl b8 rfl ?_) | refine k_want rfl ?_ | refine k_mv rfl ?_ | refine k_pickF rfl rfl ?_ | refine k_notT rfl ?_ | refine k_neqF rfl rfl (by omega) ?_ | refine k_ok rfl rfl ?_))
      have cL := hFi.mem.1
      rw [hlC] at cL
      obtain ⟨ll, sl⟩ := sgn_of cL
      have sl' : ∀ i, i < C.length → Sgn (L.getD i 0) := by rw [hlC]; exact sl
      have m1 := mtD_len C L
      rw [hlC] at m1
      have mm1 := mtD_mates gc sl'
      have h4 := hF.four
      have cn := conn_o gc sl'
      rw [hlC] at cn
      have hX := two_of gc hFi hL1 hl2 cd' pd
      have x68 := e6.trans e8
      have x38 := e3.trans (e4.trans (e5.trans x68))
      have x08 := (e1.trans e2).trans x38
      have b8x := b2.ext x38
      have b8n := b6.ext e8
      have k23 := call23 (HK := HK1) rfl h8 t' m' s m L (mtD C L) xs ms xs.length h1n hF.n64 (IsSl.ext it' x68) (IsSl.ext im' x68) (IsSl.ext hx x08) (IsSl.ext hs x08) ll rfl m1 h4 mm1 hF.mates
      repeat' (first | refine d_one ?_ | ((refine i_nil ?_); first | refine d_same ?_ | refine d_ord ?_) | ((refine i_cons ?_); first | (refine k_call rfl k23 ?_; rintro v h9 ⟨e9, bb, rfl, hb⟩) | refine k_mv rfl ?_))
      rcases hX with hX | hX
      · subst hX
        obtain rfl := hb nu iso cn
        repeat' (first | refine w_seqN ?_ | refine w_ret ?_ | refine d_one ?_ | refine d_nil ?_ | ((refine i_nil ?_); first | refine d_same ?_ | refine w_end1 rfl ?_) | ((refine i_cons ?_); first | refine k_skip rfl ?_ | refine k_mv rfl ?_ | refine k_pickT rfl rfl ?_))
        exact ⟨.inr rfl, rfl⟩
      · cases bb with
        | true =>
          repeat' (first | refine w_seqN ?_ | refine w_ret ?_ | refine d_one ?_ | refine d_nil ?_ | ((refine i_nil ?_); first | refine d_same ?_ | refine w_end1 rfl ?_) | ((refine i_cons ?_); first | refine k_skip rfl ?_ | refine k_mv rfl ?_ | refine k_pickT rfl rfl ?_))
          exact ⟨.inr rfl, rfl⟩
        | false =>
          have b9 := b8x.ext e9
          have b9' := b8n.ext e9
          have k24 := call24 (HK := HK1) rfl rfl h9 s m xs ms xs.length hF.n64 hF.sgn rfl h4 hF.mates (IsSl.ext hx (x08.trans e9)) (IsSl.ext hs (x08.trans e9))
          have hLn : L = negL L0 := by rw [hX, negL_neg]
          have s0 : ∀ i, i < C.length → Sgn (L0.getD i 0) := (sgn_of cd').2
          have iso2 := iso_mu hlC hF.n64 s0 gc h4 hF.mates iso
          rw [← hLn] at iso2
          have mmr := (mrL_mates (xs := xs) hF.n64 h4 hF.mates).1
          have nl : (negL xs).length = xs.length := by simp [negL]
          repeat' (first | refine w_seqN ?_ | refine w_ret ?_ | refine d_one ?_ | refine d_nil ?_ | ((refine i_nil ?_); first | refine d_same ?_ | refine d_ord ?_ | refine d_ext (by assumption) ?_ | refine w_end1 rfl ?_) | ((refine i_cons ?_); first | refine k_ldA rfl b9 rfl ?_ | refine k_ldA rfl b9' rfl ?_ | (refine k_call rfl k24 ?_; rintro v h10 ⟨e10, tr, ur, rfl, itr, iur⟩; have k23b := call23 (HK := HK1) rfl h10 t' m' tr ur L (mtD C L) (negL xs) (mrL ms ms.length) xs.length h1n hF.n64 (IsSl.ext it' (x68.trans (e9.trans e10))) (IsSl.ext im' (x68.trans (e9.trans e10))) itr iur ll nl m1 (by rw [mrL_len]; exact h4) mm1 mmr) | (refine k_call rfl k23b ?_; rintro v h11 ⟨e11, b2, rfl, hb2⟩; obtain rfl := hb2 nu iso2 cn) | refine k_want rfl ?_ | refine k_mv rfl ?_ | refine k_pickF rfl rfl ?_))
          exact ⟨.inr rfl, rfl⟩
    · repeat' (first | refine w_seq ?_ | refine w_seqN ?_ | refine w_seqR ?_ | refine w_skip ?_ | refine w_ret ?_ | refine w_ops ?_ | ((refine i_cond ?_); first | refine w_condT rfl ?_ | refine w_condF rfl ?_) | ((refine i_nil ?_); first | refine w_end1 rfl ?_ | refine w_end2 rfl rfl ?_ | refine w_end3 rfl rfl rfl ?_ | refine w_end4 rfl rfl rfl rfl ?_) | ((refine i_cons ?_); first | (refine k_box rfl rfl ?_; intro h1 e1 l1 b1) | (refine k_call rfl (aw _) ?_; rintro v _ ⟨rfl, rfl⟩) | refine k_ldA rfl b1 rfl ?_ | (refine k_call rfl (k13 _ e1) ?_; rintro v h2 ⟨e2, bb, rfl, hq⟩; obtain rfl := hq.2 ⟨hkn, h7⟩; have b2 := b1.ext e2) | refine k_ldA rfl b2 rfl ?_ | (refine k_call rfl (k11 h2 (e1.trans e2)) ?_; rintro v h3 ⟨e3, t, rfl, it⟩; have b3 := b2.ext e3) | (refine k_call rfl (call17 (HK := HK1) rfl h3 t C it) ?_; intro v h4 q; obtain ⟨rfl, e4⟩ := refT gc q) | (refine k_call rfl (call19 (HK := HK1) rfl rfl rfl rfl rfl rfl rfl rfl rfl rfl rfl h4 t C (IsSl.ext it e4)) ?_; intro v h5 q5; obtain ⟨t', m', L, hFi, hL1, rfl, it', im', e5⟩ := dgY gc (by omega) hn q5) | (refine k_newst3 rfl ?_; intro h6 e6 b6) | (refine k_call rfl (call20 (HK := HK1) rfl rfl rfl rfl rfl rfl rfl rfl rfl h6 t C gc (by omega) (IsSl.ext it (e4.trans (e5.trans e6)))) ?_; rintro v h8 ⟨e8, X, rfl, al⟩; obtain ⟨ss, x1, x2, x3⟩ := al; have lX := Own.len x2; rw [x1] at lX) | refine k_len rfl lX ?_ | refine k_want rfl ?_ | refine k_mv rfl ?_ | refine k_pickF rfl rfl ?_ | refine k_notT rfl ?_ | refine k_neqT rfl rfl (by omega) ?_ | refine k_neqF rfl rfl (by omega) ?_ | refine k_ok rfl rfl ?_))
      exact ⟨.inr rfl, rfl⟩
  · repeat' (first | refine w_seq ?_ | refine w_seqN ?_ | refine w_seqR ?_ | refine w_skip ?_ | refine w_ret ?_ | refine w_ops ?_ | ((refine i_cond ?_); first | refine w_condT rfl ?_ | refine w_condF rfl ?_) | ((refine i_nil ?_); first | refine w_end1 rfl ?_ | refine w_end2 rfl rfl ?_) | ((refine i_cons ?_); first | (refine k_box rfl rfl ?_; intro h1 e1 l1 b1) | (refine k_call rfl (aw _) ?_; rintro v _ ⟨rfl, rfl⟩) | refine k_ldA rfl b1 rfl ?_ | (refine k_call rfl (k13 _ e1) ?_; rintro v h2 ⟨e2, bb, rfl, hq⟩; obtain rfl := bfalse3 hq hk) | refine k_mv rfl ?_ | refine k_notT rfl ?_ | refine k_notF rfl ?_))
    exact ⟨.inr rfl, rfl⟩
end Go.Proofs.Ytooafhbjbpaacaa
