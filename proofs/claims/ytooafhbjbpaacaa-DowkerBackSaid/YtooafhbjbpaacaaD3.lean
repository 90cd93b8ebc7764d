/- dowker.Signs and Diagram: contracts. -/
import Derived.Test.YtooafhbjbpaacaaD1
import Derived.Test.YtooafhbjbpaacaaDP4
import Derived.Test.YtooafhbjbpaacaaAb29
namespace Go.Proofs.Ytooafhbjbpaacaa
open Go.Ab
set_option linter.unusedVariables false
set_option linter.unusedSimpArgs false
set_option maxRecDepth 20000
set_option maxHeartbeats 4000000
attribute [local irreducible] wOps wA wSeq wBlk wRound wRoundI wOpsD wOpsS
variable {HK : FuncId → Option Hook}

/-- A list of signs with which the diagram is valid. -/
def Pd (vs q : List Int) : Prop := PV q (mtD vs q) 0
/-- One cell. -/
def Cel1 (h : Heap) (q : Nat) (a : SV) : Prop := h[q]? = some (.cells [a] true 0)
theorem Cel1.ext {h h' : Heap} {q : Nat} {a : SV} (k : Cel1 h q a) (he : Ext h h') : Cel1 h' q a := he.get _ _ k
theorem Cel1.at {h : Heap} {q : Nat} {a : SV} (k : Cel1 h q a) : Blk.At h q [a] := ⟨true, 0, k⟩
/-- What the search sees: its cells, the signs so far. -/
structure Se (hS h : Heap) (p1 p2 p3 : Nat) (o S : SV) (L : List Int) : Prop where
  e : Ext hS h
  c1 : Cel1 h p1 S
  c2 : Blk.At h p2 [o]
  c3 : Cel1 h p3 (.fn 33 [(p1, 0), (p2, 0), (p3, 0)])
  s : Own hS h S (ints L)
  n1 : NotAt S p1
  n2 : NotAt S p2
  n3 : NotAt S p3
theorem Se.ext {hS h h' : Heap} {p1 p2 p3 : Nat} {o S : SV} {L : List Int} (s : Se hS h p1 p2 p3 o S L) (e : Ext h h') : Se hS h' p1 p2 p3 o S L :=
  ⟨s.e.trans e, s.c1.ext e, s.c2.ext e, s.c3.ext e, s.s.ext e, s.n1, s.n2, s.n3⟩
theorem Se.set {hS h : Heap} {p1 p2 p3 : Nat} {o S : SV} {L : List Int} (s : Se hS h p1 p2 p3 o S L) {i : Nat} (hi : i < L.length) (v : Int) : ∃ id cap h', S = .slc id 0 L.length cap ∧ writeN h id (0 + i * 1) [.int .i64 v] = some h' ∧ Se hS h' p1 p2 p3 o S (L.set i v) := by
  obtain ⟨id, cap, h2, es, w2, o2, e2, f2, l2⟩ := Own.wr s.e s.s (i := i) (by simpa [ints] using hi) (.int .i64 v)
  obtain ⟨r, z, g⟩ := s.c2
  refine ⟨id, cap, h2, by rw [es]; simp [ints], w2, e2, (f2 _ _ s.c1 s.n1).1, ⟨r, z, (f2 _ _ g s.n2).1⟩, (f2 _ _ s.c3 s.n3).1, ?_, s.n1, s.n2, s.n3⟩
  simpa [ints, List.map_set] using o2
/-- What the search answers, from the signs p on. -/
def SeR (vs p : List Int) (n : Nat) (hS : Heap) (p1 p2 p3 : Nat) (o S : SV) (v : AV) (h' : Heap) : Prop := ∃ L, Se hS h' p1 p2 p3 o S L ∧ L.length = n ∧ L.take p.length = p ∧
  ((v = .sc (.bool true) ∧ FirstIs (Pd vs) (cands p (n - p.length)) L) ∨ (v = .sc (.bool false) ∧ ∀ q ∈ cands p (n - p.length), ¬ Pd vs q))
theorem take_set_app {L p : List Int} {x : Int} (hp : L.take p.length = p) (hl : p.length < L.length) : (L.set p.length x).take (p.length + 1) = p ++ [x] := by
  rw [List.take_add_one, List.take_set_of_le (Nat.le_refl _), hp, List.getElem?_set_self hl]; rfl
/-- The search. -/
theorem call33 (hk33 : HK 33 = none) (hk34 : HK 34 = none) (hk45 : HK 45 = none) (hk26 : HK 26 = none) (hk37 : HK 37 = none) (hk38 : HK 38 = none) (hk46 : HK 46 = none) (hk47 : HK 47 = none) (vs : List Int) (hg : Good vs) (hS : Heap) (p1 p2 p3 : Nat) (o S : SV) (ho : IsInts hS o vs) :
    ∀ (k : Nat) (p : List Int), p.length + k = vs.length → ∀ (h : Heap) (L : List Int), Se hS h p1 p2 p3 o S L → L.length = vs.length → L.take p.length = p →
      ∃ v h', Cal FT HK 33 [.sc (.int .i64 (p.length : Nat)), .sc (.ptr p1 0), .sc (.ptr p2 0), .sc (.ptr p3 0)] h v h' ∧ SeR vs p vs.length hS p1 p2 p3 o S v h'
  | 0, p, hpk, h, L, s, hL, hp => by
    refine Cal.of (F := a33) hk33 rfl rfl ?_
    have h64 := hg.2.1
    have lS := Own.len s.s
    have hle : ((ints L).length : Int) = (vs.length : Nat) := by rw [List.length_map, hL]
    rw [hle] at lS
    have ep : L = p := by rw [← hp, List.take_of_length_le (by omega)]
    have b1 := s.c1.at
    have b2 := s.c2
    have k34 := call34 hk34 hk45 h o S vs L hg hL (IsSl.ext ho s.e) (Ab.Own.ids (xs := L) s.s)
    have hpl : (p.length : Int) = (vs.length : Nat) := by omega
    rw [hpl]
    repeat' (first | refine w_seq ?_ | refine w_seqN ?_ | refine w_seqR ?_ | refine w_ret ?_ | refine w_ops ?_ | ((refine i_cond ?_); refine w_condT rfl ?_) | ((refine i_nil ?_); first | refine w_end1 rfl ?_ | refine w_end4 rfl rfl rfl rfl ?_ | refine w_end5 rfl rfl rfl rfl rfl ?_) | ((refine i_cons ?_); first | refine k_ldb rfl b1 rfl ?_ | refine k_ldb rfl b2 rfl ?_ | refine k_len rfl lS ?_ | (refine k_call rfl k34 ?_; rintro v h1 ⟨e1, t, m, rfl, it, im, _, _⟩; have k26 := call26 hk26 hk37 hk38 hk46 hk47 h1 t m 0 L (mtD vs L) it im) | (refine k_call rfl k26 ?_; rintro v h2 ⟨e2, bb, rfl, hq⟩) | refine k_mv rfl ?_ | refine k_eqlT rfl rfl (by omega) ?_))
    refine ⟨.inr rfl, L, s.ext (e1.trans e2), hL, hp, ?_⟩
    subst ep
    rw [show vs.length - L.length = 0 by omega]
    cases bb with
    | true => exact .inl ⟨rfl, [], [], rfl, hq.1 rfl, by simp⟩
    | false => exact .inr ⟨rfl, fun q hm => by
        simp [cands] at hm
        subst hm
        exact fun h => (by have := hq.2 h; cases this)⟩
  | k + 1, p, hpk, h, L, s, hL, hp => by
    refine Cal.of (F := a33) hk33 rfl rfl ?_
    have h64 := hg.2.1
    have lS := Own.len s.s
    have hle : ((ints L).length : Int) = (vs.length : Nat) := by rw [List.length_map, hL]
    rw [hle] at lS
    have hpn : p.length < vs.length := by omega
    have b1 := s.c1.at
    obtain ⟨id, cap, h1, eS, w1, s1⟩ := s.set (i := p.length) (by omega) 1
    have t1 : (L.set p.length 1).take (p ++ [1]).length = p ++ [1] := by
      rw [List.length_append]
      exact take_set_app hp (by omega)
    obtain ⟨v2, h2, c2, L2, s2, hl2, ht2, r2⟩ := call33 hk33 hk34 hk45 hk26 hk37 hk38 hk46 hk47 vs hg hS p1 p2 p3 o S ho k (p ++ [1]) (by simp; omega) h1 _ s1 (by rw [List.length_set, hL]) t1
    have e1l : ((p ++ [1]).length : Nat) = p.length + 1 := by simp
    have kk2 : ∃ v h', Cal FT HK 33 [.sc (.int .i64 ((p.length : Int) + 1)), .sc (.ptr p1 0), .sc (.ptr p2 0), .sc (.ptr p3 0)] h1 v h' ∧ v = v2 ∧ h' = h2 := ⟨v2, h2, by rw [e1l] at c2; exact c2, rfl, rfl⟩
    have ht2' : L2.take p.length = p := by
      have := congrArg (List.take p.length) ht2
      rw [List.take_take, e1l, Nat.min_eq_left (by omega), List.take_left] at this
      exact this
    have en : cands p (vs.length - p.length) = cands (p ++ [1]) (vs.length - (p ++ [1]).length) ++ cands (p ++ [-1]) (vs.length - (p ++ [-1]).length) := by
      rw [show vs.length - p.length = (vs.length - (p.length + 1)) + 1 by omega, cands]
      simp
    obtain ⟨id', cap', h3, eS', w3, s3⟩ := s2.set (i := p.length) (by omega) (-1)
    rw [hL] at eS
    rw [hl2] at eS'
    have b1' := s1.c3.at
    subst eS
    cases eS'
    have ic := s.c1.at
    rcases r2 with ⟨rfl, hf⟩ | ⟨rfl, hn⟩
    · repeat' (first | refine w_seq ?_ | refine w_seqN ?_ | refine w_seqR ?_ | refine w_skip ?_ | refine w_ret ?_ | refine w_ops ?_ | ((refine i_cond ?_); first | refine w_condT rfl ?_ | refine w_condF rfl ?_) | ((refine i_nil ?_); first | refine w_end1 rfl ?_ | refine w_end3 rfl rfl rfl ?_ | refine w_end4 rfl rfl rfl rfl ?_ | refine w_end5 rfl rfl rfl rfl rfl ?_) | ((refine i_cons ?_); first | refine k_ldb rfl b1 rfl ?_ | refine k_len rfl lS ?_ | refine k_idxA (esz := 1) rfl rfl (by omega) ?_ | refine k_st rfl rfl w1 ?_ | refine k_ldb rfl b1' rfl ?_ | (refine k_callvC rfl rfl kk2 ?_; rintro v hh ⟨rfl, rfl⟩) | refine k_mv rfl ?_ | refine k_add rfl rfl (by omega) ?_ | refine k_eqlF rfl rfl (by omega) ?_))
      exact ⟨.inr rfl, L2, s2, hl2, ht2', .inl ⟨rfl, by rw [en]; exact hf.left⟩⟩
    · have t3 : (L2.set p.length (-1)).take (p ++ [-1]).length = p ++ [-1] := by
        rw [List.length_append]
        exact take_set_app ht2' (by omega)
      obtain ⟨v4, h4, c4, L4, s4, hl4, ht4, r4⟩ := call33 hk33 hk34 hk45 hk26 hk37 hk38 hk46 hk47 vs hg hS p1 p2 p3 o _ ho k (p ++ [-1]) (by simp; omega) h3 _ s3 (by rw [List.length_set, hl2]) t3
      have e4l : ((p ++ [-1]).length : Nat) = p.length + 1 := by simp
      have kk4 : ∃ v h', Cal FT HK 33 [.sc (.int .i64 ((p.length : Int) + 1)), .sc (.ptr p1 0), .sc (.ptr p2 0), .sc (.ptr p3 0)] h3 v h' ∧ v = v4 ∧ h' = h4 := ⟨v4, h4, by rw [e4l] at c4; exact c4, rfl, rfl⟩
      have ht4' : L4.take p.length = p := by
        have := congrArg (List.take p.length) ht4
        rw [List.take_take, e4l, Nat.min_eq_left (by omega), List.take_left] at this
        exact this
      have b2 := s2.c1.at
      have b3 := s3.c3.at
      have fin : SeR vs p vs.length hS p1 p2 p3 o (.slc id 0 vs.length cap) v4 h4 := by
        refine ⟨L4, s4, hl4, ht4', ?_⟩
        rw [en]
        rcases r4 with ⟨rfl, hf⟩ | ⟨rfl, hn2⟩
        · exact .inl ⟨rfl, hf.right hn⟩
        · exact .inr ⟨rfl, fun q hq => (List.mem_append.1 hq).elim (hn q) (hn2 q)⟩
      have hv4 : ∃ bb, v4 = .sc (.bool bb) := by rcases r4 with ⟨rfl, _⟩ | ⟨rfl, _⟩ <;> exact ⟨_, rfl⟩
      obtain ⟨bb, rfl⟩ := hv4
      repeat' (first | refine w_seq ?_ | refine w_seqN ?_ | refine w_skip ?_ | refine w_ret ?_ | refine w_ops ?_ | ((refine i_cond ?_); refine w_condF rfl ?_) | ((refine i_nil ?_); first | refine w_end1 rfl ?_ | refine w_end2 rfl rfl ?_ | refine w_end3 rfl rfl rfl ?_ | refine w_end4 rfl rfl rfl rfl ?_ | refine w_end5 rfl rfl rfl rfl rfl ?_) | ((refine i_cons ?_); first | refine k_ldb rfl b3 rfl ?_ | refine k_ldb rfl b2 rfl ?_ | refine k_ldb rfl b1 rfl ?_ | refine k_len rfl lS ?_ | refine k_idxA (esz := 1) rfl rfl (by omega) ?_ | refine k_st rfl rfl w3 ?_ | refine k_st rfl rfl w1 ?_ | refine k_ldb rfl b1' rfl ?_ | (refine k_callvC rfl rfl kk4 ?_; rintro v hh ⟨rfl, rfl⟩) | (refine k_callvC rfl rfl kk2 ?_; rintro v hh ⟨rfl, rfl⟩) | refine k_mv rfl ?_ | refine k_add rfl rfl (by omega) ?_ | refine k_eqlF rfl rfl (by omega) ?_))
      exact ⟨.inr rfl, fin⟩
end Go.Proofs.Ytooafhbjbpaacaa
