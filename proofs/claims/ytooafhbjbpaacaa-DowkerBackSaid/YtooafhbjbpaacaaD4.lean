/- dowker.Signs and Diagram: what they answer. -/
import Derived.Test.YtooafhbjbpaacaaD3
namespace Go.Proofs.Ytooafhbjbpaacaa
open Go.Ab
set_option linter.unusedVariables false
set_option linter.unusedSimpArgs false
set_option maxRecDepth 20000
set_option maxHeartbeats 4000000
attribute [local irreducible] wOps wA wSeq wBlk wRound wRoundI wOpsD wOpsS
variable {HK : FuncId → Option Hook}

section
variable {FT : FuncId → Option AFun} {E : Env} {h : Heap} {K : Env → Heap → Prop} {d : Option Nat} {r : List AOp} {x : AO}
theorem k_new1 {a : SV} (hw : ∀ h1, Ext h h1 → h1.length = h.length + 1 → Cel1 h1 h.length a → wOps FT HK r (bindE d (some (.sc (.ptr h.length 0))) E) h1 K) : wOps FT HK (⟨d, .new [a], none⟩ :: r) E h K :=
  op_ok (v := some (.sc (.ptr h.length 0))) (h' := h ++ [.cells [a] true 0]) rfl rfl rfl (hw _ ⟨_, rfl⟩ (by simp) (by simp [Cel1]))
theorem k_st1c {hx : Heap} {q : Nat} {a u : SV} {p : AO} (ha : evS E p = some (.ptr q 0)) (hv : ev E x = some (.sc a)) (hc : Cel1 h q u) (he : Ext hx h) (hq : hx.length ≤ q)
    (hw : ∀ h1, Ext hx h1 → Cel1 h1 q a → h1.length = h.length → (∀ (j : Nat) (b : Blk), h[j]? = some b → j ≠ q → h1[j]? = some b) → wOps FT HK r (bindE d none E) h1 K) : wOps FT HK (⟨d, .st 1 p x, none⟩ :: r) E h K := by
  have hq2 : q < h.length := (List.getElem?_eq_some_iff.1 hc).1
  have hc' : h[q]? = some (.cells [u] true 0) := hc
  refine op_ok (v := none) (h' := h.set q (.cells [a] true 0)) rfl rfl ?_ (hw _ (he.set hq _) (by simp [Cel1, hq2]) (by simp) fun j b hj hn => by rw [List.getElem?_set_ne (fun e => hn e.symm)]; exact hj)
  simp [step1, ha, hv, AV.cells, writeN, hc', splice]
end
/-- What Signs answers. -/
def SgR (vs : List Int) (h0 : Heap) (v : AV) (h' : Heap) : Prop := Ext h0 h' ∧
  ((¬ Good vs ∧ v = .tup [.sc .nilS, .sc (.int .i64 3)]) ∨ (Good vs ∧ 14 < vs.length ∧ v = .tup [.sc .nilS, .sc (.int .i64 5)]) ∨
    (Good vs ∧ vs.length ≤ 14 ∧ (∀ q ∈ cands [] vs.length, ¬ Pd vs q) ∧ v = .tup [.sc .nilS, .sc (.int .i64 7)]) ∨
    (Good vs ∧ vs.length ≤ 14 ∧ ∃ S L, FirstIs (Pd vs) (cands [] vs.length) L ∧ (∃ r, L = 1 :: r) ∧ v = .tup [.sc S, .sc (.int .i64 0)] ∧ IsInts h' S L))
theorem first_code {vs : List Int} (hg : Good vs) : (∀ q, FirstIs (Pd vs) (cands [1] (vs.length - 1)) q → FirstIs (Pd vs) (cands [] vs.length) q) ∧ ((∀ q ∈ cands [1] (vs.length - 1), ¬ Pd vs q) → ∀ q ∈ cands [] vs.length, ¬ Pd vs q) := by
  have h1 := hg.1
  have := first_one (P := Pd vs) (k := vs.length - 1) fun q hl hq => mtD_neg (by omega) (by omega) hq
  rw [show vs.length - 1 + 1 = vs.length by omega] at this
  exact this
theorem call18 (hk18 : HK 18 = none) (hk16 : HK 16 = none) (hk33 : HK 33 = none) (hk34 : HK 34 = none) (hk45 : HK 45 = none) (hk26 : HK 26 = none) (hk37 : HK 37 = none) (hk38 : HK 38 = none) (hk46 : HK 46 = none) (hk47 : HK 47 = none) (h0 : Heap) (o : SV) (vs : List Int) (ho : IsInts h0 o vs) :
    ∃ v h', Cal FT HK 18 [.sc o] h0 v h' ∧ SgR vs h0 v h' := by
  refine Cal.of (F := a18) hk18 rfl rfl ?_
  have lo := IsSl.len ho
  have k16 := fun H (e : Ext h0 H) => call16 (HK := HK) hk16 H o vs (IsSl.ext ho e)
  by_cases hg : Good vs
  · have hgT : ∀ {h1 : Heap} {v : AV} {h' : Heap}, BoolIff (Good vs) h1 v h' → v = .sc (.bool true) ∧ Ext h1 h' := fun {h1 v h'} q => by
      obtain ⟨e, b, rfl, hq⟩ := q
      rw [hq.2 hg]; exact ⟨rfl, e⟩
    have h1n := hg.1
    have h64 := hg.2.1
    by_cases h14 : vs.length ≤ 14
    · repeat' (first | refine w_seq ?_ | refine w_seqN ?_ | refine w_skip ?_ | refine w_ops ?_ | ((refine i_cond ?_); refine w_condF rfl ?_) | ((refine i_nil ?_); first | refine w_end1 rfl ?_ | refine w_end2 rfl rfl ?_) | ((refine i_cons ?_); first | (refine k_box rfl rfl ?_; intro h1 e1 l1 b1) | refine k_ldb rfl b2 rfl ?_ | refine k_ldb rfl b1 rfl ?_ | (refine k_call rfl (k16 h1 e1) ?_; intro v h2 q; obtain ⟨rfl, e2⟩ := hgT q; have b2 := b1.ext e2) | refine k_len rfl lo ?_ | (refine k_mkO (h0 := h2) (Ext.refl _) rfl rfl (by simp only [bigN]; omega) ?_; intro S h3 o3 e3 e3' l3) | (refine k_new1 ?_; intro h4 e4 l4 c4) | (refine k_st1c rfl rfl c4 (e3.trans e4) (Nat.le_of_lt (by omega)) ?_; intro h5 e5 c5 l5 k5) | refine k_mv rfl ?_ | refine k_notT rfl ?_ | refine k_gtrF rfl rfl (by omega) ?_))
      have ez : ((vs.length : Int)).toNat = vs.length := by omega
      rw [ez] at o3
      have sn1 : NotAt S h3.length := isSl_notD o3.sl (Nat.le_refl _)
      have sn2 : NotAt S h0.length := notAt_of_le o3 (by have := e1.len; have := e2.len; omega)
      have o5 : Own h2 h5 S (ints (List.replicate vs.length 0)) := by
        have o4 := o3.ext e4
        have : Own h2 h5 S (List.replicate vs.length (SV.int .i64 0)) := by
          rcases o4 with o4 | ⟨id, cap, cs, e, g1, g2, g3, g4⟩
          · exact .inl o4
          · exact .inr ⟨id, cap, cs, e, g1, k5 _ _ g2 (fun h => by subst h; exact sn1 _ _ _ e), g3, g4⟩
        simpa [ints] using this
      obtain ⟨id, cap, h6, eS, w6, o6, e6, f6, l6⟩ := Own.wr e5 o5 (i := 0) (by simp [ints]; omega) (.int .i64 1)
      have hln : (ints (List.replicate vs.length 0)).length = vs.length := by simp [ints]
      rw [hln] at eS
      have c5b := c5.at
      have c6 : Cel1 h6 h3.length S := (f6 _ _ c5 sn1).1
      obtain ⟨r2, z2, g2⟩ := b2
      have g6 : h6[h0.length]? = some (.cells [o] r2 z2) := (f6 _ _ (k5 _ _ ((e3.trans e4).get _ _ g2) (by have := e1.len; have := e2.len; have := e3.len; omega)) sn2).1
      subst eS
      repeat' (first | refine w_seq ?_ | refine w_seqN ?_ | refine w_ops ?_ | ((refine i_nil ?_); first | refine w_end2 rfl rfl ?_ | refine w_end3 rfl rfl rfl ?_) | ((refine i_cons ?_); first | refine k_ldb rfl c5b rfl ?_ | refine k_idxA (esz := 1) rfl rfl (by omega) ?_ | refine k_st rfl rfl w6 ?_ | (refine k_new1 ?_; intro h7 e7 l7 c7) | (refine k_st1c (hx := h2) rfl rfl c7 (e6.trans e7) (by have := e6.len; omega) ?_; intro h8 e8 c8 l8 k8) | refine k_ok rfl rfl ?_))
      have n6 := e6.len
      have n1 := e1.len
      have n2 := e2.len
      have n3 := e3.len
      have p3l : h3.length < h6.length := (List.getElem?_eq_some_iff.1 c6).1
      have o6' : Own h2 h6 (.slc id 0 vs.length cap) (ints ((List.replicate vs.length 0).set 0 1)) := by simpa [ints, List.map_set] using o6
      have sn3 : NotAt (.slc id 0 vs.length cap) h6.length := isSl_notD o6'.sl (Nat.le_refl _)
      have se : Se h2 h8 h3.length h0.length h6.length o (.slc id 0 vs.length cap) ((List.replicate vs.length 0).set 0 1) := by
        refine ⟨e8, k8 _ _ (c6.ext e7) (by omega), ⟨r2, z2, k8 _ _ (e7.get _ _ g6) (by omega)⟩, c8, ?_, sn1, sn2, sn3⟩
        rcases o6'.ext e7 with o4 | ⟨id, cap, cs, e, g1, g2, g3, g4⟩
        · exact .inl o4
        · exact .inr ⟨id, cap, cs, e, g1, k8 _ _ g2 (fun h => by subst h; exact sn3 _ _ _ e), g3, g4⟩
      have tk : ((List.replicate vs.length (0 : Int)).set 0 1).take ([1] : List Int).length = [1] := by
        rw [show vs.length = (vs.length - 1) + 1 by omega, List.replicate_succ, List.set_cons_zero]; rfl
      obtain ⟨v9, h9, cc9, L, s9, hL, tL, r9⟩ := call33 hk33 hk34 hk45 hk26 hk37 hk38 hk46 hk47 vs hg h2 h3.length h0.length h6.length o _ (IsSl.ext ho (e1.trans e2)) (vs.length - 1) [1] (by simp; omega) h8 _ se (by simp) tk
      have kk : ∃ v h', Cal FT HK 33 [.sc (.int .i64 1), .sc (.ptr h3.length 0), .sc (.ptr h0.length 0), .sc (.ptr h6.length 0)] h8 v h' ∧ v = v9 ∧ h' = h9 := ⟨v9, h9, cc9, rfl, rfl⟩
      have c8b := c8.at
      have c9b := s9.c1.at
      have x9 : Ext h0 h9 := e1.trans (e2.trans s9.e)
      obtain ⟨q1, q2⟩ := first_code hg
      rcases r9 with ⟨rfl, hf⟩ | ⟨rfl, hn⟩
      · repeat' (first | refine w_seq ?_ | refine w_seqN ?_ | refine w_skip ?_ | refine w_ret ?_ | refine w_ops ?_ | ((refine i_cond ?_); refine w_condF rfl ?_) | ((refine i_nil ?_); refine w_end2 rfl rfl ?_) | ((refine i_cons ?_); first | refine k_ldb rfl c9b rfl ?_ | refine k_ldb rfl c8b rfl ?_ | (refine k_callvC rfl rfl kk ?_; rintro v hh ⟨rfl, rfl⟩) | refine k_mv rfl ?_ | refine k_notT rfl ?_))
        refine ⟨.inr rfl, x9, .inr (.inr (.inr ⟨hg, h14, _, L, q1 L hf, ?_, rfl, Ab.Own.ids (xs := L) s9.s⟩))⟩
        cases L with
        | nil => simp at tL
        | cons a r => simp at tL; exact ⟨r, by rw [tL]⟩
      · repeat' (first | refine w_seq ?_ | refine w_seqN ?_ | refine w_seqR ?_ | refine w_ret ?_ | refine w_ops ?_ | ((refine i_cond ?_); refine w_condT rfl ?_) | ((refine i_nil ?_); refine w_end2 rfl rfl ?_) | ((refine i_cons ?_); first | refine k_ldb rfl c8b rfl ?_ | (refine k_callvC rfl rfl kk ?_; rintro v hh ⟨rfl, rfl⟩) | refine k_mv rfl ?_ | refine k_notF rfl ?_))
        exact ⟨.inr rfl, x9, .inr (.inr (.inl ⟨hg, h14, q2 hn, rfl⟩))⟩
    · repeat' (first | refine w_seq ?_ | refine w_seqN ?_ | refine w_seqR ?_ | refine w_skip ?_ | refine w_ret ?_ | refine w_ops ?_ | ((refine i_cond ?_); first | refine w_condT rfl ?_ | refine w_condF rfl ?_) | ((refine i_nil ?_); first | refine w_end1 rfl ?_ | refine w_end2 rfl rfl ?_) | ((refine i_cons ?_); first | (refine k_box rfl rfl ?_; intro h1 e1 l1 b1) | refine k_ldb rfl b2 rfl ?_ | refine k_ldb rfl b1 rfl ?_ | (refine k_call rfl (k16 h1 e1) ?_; intro v h2 q; obtain ⟨rfl, e2⟩ := hgT q; have b2 := b1.ext e2) | refine k_len rfl lo ?_ | refine k_mv rfl ?_ | refine k_notT rfl ?_ | refine k_gtrT rfl rfl (by omega) ?_))
      exact ⟨.inr rfl, e1.trans e2, .inr (.inl ⟨hg, by omega, rfl⟩)⟩
  · have hgF : ∀ {h1 : Heap} {v : AV} {h' : Heap}, BoolIff (Good vs) h1 v h' → v = .sc (.bool false) ∧ Ext h1 h' := fun {h1 v h'} q => by
      obtain ⟨e, b, rfl, hq⟩ := q
      cases b with
      | false => exact ⟨rfl, e⟩
      | true => exact absurd (hq.1 rfl) hg
    repeat' (first | refine w_seq ?_ | refine w_seqN ?_ | refine w_seqR ?_ | refine w_ret ?_ | refine w_ops ?_ | ((refine i_cond ?_); refine w_condT rfl ?_) | ((refine i_nil ?_); first | refine w_end1 rfl ?_ | refine w_end2 rfl rfl ?_) | ((refine i_cons ?_); first | (refine k_box rfl rfl ?_; intro h1 e1 l1 b1) | refine k_ldb rfl b1 rfl ?_ | (refine k_call rfl (k16 h1 e1) ?_; intro v h2 q; obtain ⟨rfl, e2⟩ := hgF q) | refine k_mv rfl ?_ | refine k_notF rfl ?_))
    exact ⟨.inr rfl, e1.trans e2, .inl ⟨hg, rfl⟩⟩
end Go.Proofs.Ytooafhbjbpaacaa
