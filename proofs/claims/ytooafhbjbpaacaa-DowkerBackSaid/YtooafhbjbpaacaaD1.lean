/- dowker.draw: its contract. -/
import Derived.Test.YtooafhbjbpaacaaDP3
import Derived.Test.YtooafhbjbpaacaaD0
namespace Go.Proofs.Ytooafhbjbpaacaa
open Go.Ab
set_option linter.unusedVariables false
set_option linter.unusedSimpArgs false
set_option maxRecDepth 20000
set_option maxHeartbeats 4000000
attribute [local irreducible] wOps wA wSeq wBlk wRound wRoundI wOpsD wOpsS
variable {HK : FuncId → Option Hook}

/-- What ends at a bound, as it goes up. -/
def cntD (n t : Nat) (E : Env) (_ : Heap) : Nat := match E.get t with
  | some (.sc (.int _ i)) => n - i.toNat
  | _ => 0
def FshD (hs : Heap) (t : SV) : Prop := ∀ j, j < hs.length → NotAt t j
theorem readN_extD {h h' : Heap} {id off n : Nat} {vs : List SV} (e : Ext h h') (hr : readN h id off n = some vs) : readN h' id off n = some vs := by
  unfold readN at hr ⊢
  split at hr
  · rename_i hg; rw [e.get _ _ hg]; exact hr
  · cases hr
theorem own_fshD {h0 h : Heap} {s : SV} {vs : List SV} (ho : Own h0 h s vs) : FshD h0 s := fun j hj => notAt_of_le ho hj
theorem isSl_notD {h : Heap} {t : SV} {z : ESz} {n : Nat} {ws : List SV} (ht : IsSl h t z n ws) {j : Nat} (hj : h.length ≤ j) : NotAt t j := by
  rcases ht with ⟨rfl, -⟩ | ⟨id, off, cap, b, rfl, h1, -⟩
  · intro o n c e; cases e
  · intro o n c e
    have := (List.getElem?_eq_some_iff.1 h1).1
    cases e; omega
theorem apart_newD {h0 h : Heap} {X t : SV} {ss : List SV} (hX : Own h0 h X ss) (ht : FshD h t) : Ab.Apart X t := fun j => by
  rcases hX with ⟨rfl, -⟩ | ⟨id, cap, cs, rfl, -, h2, -⟩
  · exact .inl fun o n c e => by cases e
  · by_cases hj : j = id
    · subst hj
      exact .inr (ht j (List.getElem?_eq_some_iff.1 h2).1)
    · exact .inl fun o n c e => hj (by cases e; rfl)
/-! ### Clone -/
theorem call45 (hk : HK 45 = none) (h0 : Heap) (s : SV) (xs : List Int) (hs : IsInts h0 s xs) (hl : xs.length ≤ 100000) : ∃ v h', Cal FT HK 45 [.sc s] h0 v h' ∧ Ext h0 h' ∧ ∃ t, v = .sc t ∧ IsInts h' t xs ∧ FshD h0 t := by
  refine Cal.of (F := a45) hk rfl rfl ?_
  rcases id hs with ⟨rfl, h1, h2⟩ | ⟨id, off, cap, b, rfl, h1, h2, h3, h4⟩
  · have hx : xs = [] := List.eq_nil_of_length_eq_zero h1
    subst hx
    repeat' (first | refine w_seq ?_ | refine w_seqN ?_ | refine w_seqR ?_ | refine w_ret ?_ | refine w_ops ?_ | ((refine i_cond ?_); refine w_condT rfl ?_) | ((refine i_nil ?_); first | refine w_end1 rfl ?_ | refine w_end2 rfl rfl ?_) | ((refine i_cons ?_); first | refine k_mv rfl ?_ | refine k_ok rfl rfl ?_))
    exact ⟨.inr rfl, Ext.refl _, .nilS, rfl, .inl ⟨rfl, rfl, rfl⟩, fun j _ o n c e => (by cases e)⟩
  · have e1 : Ext h0 (h0 ++ [Blk.cells [] true 1]) := ⟨_, rfl⟩
    have o1 : Own h0 (h0 ++ [Blk.cells [] true 1]) (.slc h0.length 0 0 (some 0)) (ints []) := .inr ⟨h0.length, some 0, [], rfl, Nat.le_refl _, by simp, rfl, rfl, Nat.le_refl _⟩
    have hsrc := IsInts.src (IsSl.ext hs e1)
    have lit : ∀ {E : Env} {K : Env → Heap → Prop} {d : Option Nat} {r : List AOp} {z : SV}, wOps FT HK r (bindE d (some (.sc (.slc h0.length 0 0 (some 0)))) E) (h0 ++ [Blk.cells [] true 1]) K → wOps FT HK (⟨d, .bsl 1 [z] 0 [], none⟩ :: r) E h0 K := fun hw => op_ok (v := some (.sc (.slc h0.length 0 0 (some 0)))) (h' := h0 ++ [.cells [] true 1]) rfl rfl (by simp [step1, evParts, fillA, rep]) hw
    repeat' (first | refine w_seq ?_ | refine w_seqN ?_ | refine w_skip ?_ | refine w_ret ?_ | refine w_ops ?_ | ((refine i_cond ?_); refine w_condF rfl ?_) | ((refine i_nil ?_); first | refine w_end1 rfl ?_ | refine w_end2 rfl rfl ?_) | ((refine i_cons ?_); first | refine lit ?_ | (refine k_app e1 o1 rfl rfl hsrc (by simp [ints, bigN]; omega) ?_; intro s1 h2 o2 e2 f2 f3) | refine k_mv rfl ?_ | refine k_ok rfl rfl ?_))
    exact ⟨.inr rfl, e2, s1, rfl, by simpa [ints] using Ab.Own.ids (xs := xs) (by simpa [ints] using o2), fun j hj => notAt_of_le o2 hj⟩

/-! ### Two slices of one's own -/
structure Two (hb h : Heap) (A B : SV) (X Y : List Int) : Prop where
  e : Ext hb h
  x : Own hb h A (ints X)
  y : Own hb h B (ints Y)
  ap : Ab.Apart A B
section
variable {hb h : Heap} {A B : SV} {X Y : List Int}
theorem Two.setA (s : Two hb h A B X Y) {i : Nat} (hi : i < X.length) (v : Int) : ∃ id cap h', A = .slc id 0 X.length cap ∧ writeN h id (0 + i * 1) [.int .i64 v] = some h' ∧ Two hb h' A B (X.set i v) Y := by
  obtain ⟨id, cap, h2, es, w2, o2, e2, f2, l2⟩ := Own.wr s.e s.x (i := i) (by simpa [ints] using hi) (.int .i64 v)
  refine ⟨id, cap, h2, by rw [es]; simp [ints], w2, e2, ?_, Own.away s.y f2 s.ap, s.ap⟩
  simpa [ints, List.map_set] using o2
theorem Two.setB (s : Two hb h A B X Y) {i : Nat} (hi : i < Y.length) (v : Int) : ∃ id cap h', B = .slc id 0 Y.length cap ∧ writeN h id (0 + i * 1) [.int .i64 v] = some h' ∧ Two hb h' A B X (Y.set i v) := by
  obtain ⟨id, cap, h2, es, w2, o2, e2, f2, l2⟩ := Own.wr s.e s.y (i := i) (by simpa [ints] using hi) (.int .i64 v)
  refine ⟨id, cap, h2, by rw [es]; simp [ints], w2, e2, Own.away s.x f2 s.ap.symm, ?_, s.ap⟩
  simpa [ints, List.map_set] using o2
theorem Two.rdA (s : Two hb h A B X Y) {i : Nat} {v : Int} (hv : X[i]? = some v) : ∃ id cap, A = .slc id 0 X.length cap ∧ readN h id (0 + i * 1) 1 = some [.int .i64 v] := by
  obtain ⟨id, cap, e, r⟩ := Own.rd s.x (i := i) (v := .int .i64 v) (by simp [ints, hv])
  exact ⟨id, cap, by rw [e]; simp [ints], r⟩
theorem Two.rdB (s : Two hb h A B X Y) {i : Nat} {v : Int} (hv : Y[i]? = some v) : ∃ id cap, B = .slc id 0 Y.length cap ∧ readN h id (0 + i * 1) 1 = some [.int .i64 v] := by
  obtain ⟨id, cap, e, r⟩ := Own.rd s.y (i := i) (v := .int .i64 v) (by simp [ints, hv])
  exact ⟨id, cap, by rw [e]; simp [ints], r⟩
/-- Both at a place, one after the other. -/
theorem Two.both (s : Two hb h A B X Y) {i : Nat} (hi : i < X.length) (hj : i < Y.length) (v w : Int) : ∃ id cap id' cap' h' h'', A = .slc id 0 X.length cap ∧ B = .slc id' 0 Y.length cap' ∧ writeN h id (0 + i * 1) [.int .i64 v] = some h' ∧ writeN h' id' (0 + i * 1) [.int .i64 w] = some h'' ∧ Two hb h'' A B (X.set i v) (Y.set i w) := by
  obtain ⟨id, cap, h1, e1, w1, s1⟩ := s.setA hi v
  obtain ⟨id', cap', h2, e2, w2, s2⟩ := s1.setB hj w
  exact ⟨id, cap, id', cap', h1, h2, e1, e2, w1, w2, s2⟩
end
/-- The passages of one more crossing. -/
theorem inD_step (vs xs : List Int) (i : Nat) : inD vs xs (i + 1) = ((inD vs xs i).set (unD (vs.getD i 0) i) (4 * (i : Int))).set (ovD (vs.getD i 0) i) (if xs.getD i 0 = -1 then 4 * (i : Int) + 1 else 4 * (i : Int) + 3) := by
  rw [inD]; rfl
theorem outD_step (vs xs : List Int) (i : Nat) : outD vs xs (i + 1) = ((outD vs xs i).set (unD (vs.getD i 0) i) (4 * (i : Int) + 2)).set (ovD (vs.getD i 0) i) (if xs.getD i 0 = -1 then 4 * (i : Int) + 3 else 4 * (i : Int) + 1) := by
  rw [outD]; rfl

def I34a (hb : Heap) (s o A B : SV) (q : Nat) (vs xs : List Int) (E : Env) (h : Heap) : Prop := ∃ i : Nat, i ≤ vs.length ∧ Two hb h A B (inD vs xs i) (outD vs xs i) ∧
  E = [(1, some (.sc s)), (4, some (.sc (.ptr q 0))), (5, some (.sc (.int .i64 (vs.length : Nat)))), (6, some (.sc A)), (7, some (.sc B)), (24, some (.sc o)), (25, some (.sc (.int .i64 (vs.length : Nat)))), (26, some (.sc (.int .i64 (i : Nat))))]
def R34a (hb : Heap) (s A B : SV) (q : Nat) (vs xs : List Int) (ex : Ex) (E : Env) (h : Heap) : Prop := ex = .ex 0 ∧ Two hb h A B (inD vs xs vs.length) (outD vs xs vs.length) ∧ ∃ a b c d,
  E = [(1, some (.sc s)), (4, some (.sc (.ptr q 0))), (5, some (.sc (.int .i64 (vs.length : Nat)))), (6, some (.sc A)), (7, some (.sc B)), (24, a), (25, b), (26, c), (27, d)]
theorem round34a (hb : Heap) (s o A B : SV) (q : Nat) (vs xs : List Int) (hg : Good vs) (hl : xs.length = vs.length) (hs : IsInts hb s xs) (ho : IsInts hb o vs) (E : Env) (h : Heap) (hI : I34a hb s o A B q vs xs E h) :
    wA FT HK b34L0 (E.keep [1, 4, 5, 6, 7, 24, 25, 26]) h (wRound (I34a hb s o A B q vs xs) (cntD vs.length 26) (cntD vs.length 26 E h) (R34a hb s A B q vs xs)) := by
  obtain ⟨i, hi, st, rfl⟩ := hI
  have h64 := hg.2.1
  by_cases hlt : i < vs.length
  · obtain ⟨v, hv⟩ : ∃ v, vs[i]? = some v := ⟨_, List.getElem?_eq_getElem hlt⟩
    obtain ⟨x, hx⟩ : ∃ x, xs[i]? = some x := ⟨_, List.getElem?_eq_getElem (by omega)⟩
    obtain ⟨v2, vn, ve⟩ := good_v hg hlt
    obtain ⟨l1, l2, l3⟩ := ov_lt hg hlt
    have eI := inD_step vs xs i
    have eO := outD_step vs xs i
    rw [getD_at hv] at v2 vn ve l1 l2 l3 eI eO
    rw [getD_at hx] at eI eO
    obtain ⟨id, off, cap, rfl, hr0⟩ := IsInts.at ho hv
    obtain ⟨id2, off2, cap2, rfl, hr20⟩ := IsInts.at hs hx
    have hr := readN_extD st.e hr0
    have li := inD_len vs xs i
    have lo := outD_len vs xs i
    obtain ⟨iA, cA, iB, cB, h1, h2, eA0, eB0, w1, w2, s2⟩ := st.both (i := unD v i) (by omega) (by omega) (4 * (i : Int)) (4 * (i : Int) + 2)
    obtain ⟨iA', cA', iB', cB', h3, h4, eA, eB, w3, w4, s4⟩ := s2.both (i := ovD v i) (by rw [List.length_set]; omega) (by rw [List.length_set]; omega) (4 * (i : Int) + 3) (4 * (i : Int) + 1)
    obtain ⟨iA2, cA2, iB2, cB2, h5, h6, eA2, eB2, w5, w6, s6⟩ := s4.both (i := ovD v i) (by rw [List.length_set, List.length_set]; omega) (by rw [List.length_set, List.length_set]; omega) (4 * (i : Int) + 1) (4 * (i : Int) + 3)
    obtain ⟨iA3, cA3, eA3, rA⟩ := s4.rdA (i := ovD v i) (v := 4 * (i : Int) + 3) (by rw [List.getElem?_set_self (by rw [List.length_set]; omega)])
    obtain ⟨iB3, cB3, eB3, rB⟩ := s4.rdB (i := ovD v i) (v := 4 * (i : Int) + 1) (by rw [List.getElem?_set_self (by rw [List.length_set]; omega)])
    simp only [List.length_set, li, lo] at eA0 eB0 eA eB eA2 eB2 eA3 eB3
    subst eA0
    subst eB0
    cases eA
    cases eB
    cases eA2
    cases eB2
    cases eA3
    cases eB3
    rw [List.set_set, List.set_set] at s6
    have hr2 := readN_extD s4.e hr20
    rw [hl] at *
    by_cases hneg : v < 0
    · have i1 : (2 * (i : Int)).toNat = unD v i := by unfold unD; rw [if_pos hneg]; omega
      have i2 : (max v (-v) - 1).toNat = ovD v i := by unfold ovD; rw [if_pos hneg]; omega
      rw [← i1] at w1 w2
      rw [← i2] at w3 w4 w5 w6 rA rB
      have b1 : 0 ≤ max v (-v) - 1 ∧ max v (-v) - 1 < ((2 * vs.length : Nat) : Int) := by omega
      by_cases hx1 : x = -1
      · subst hx1
        rw [if_pos rfl] at eI eO
        repeat' (first | refine w_seq ?_ | refine w_seqN ?_ | refine w_blk ?_ | refine w_blkN ?_ | refine w_skip ?_ | refine w_ops ?_ | refine w_opsD ?_ | refine d_one ?_ | refine d_nil ?_ | ((refine i_cond ?_); refine w_condT rfl ?_) | ((refine i_nil ?_); first | refine d_same ?_ | refine d_ord ?_ | refine w_end8 rfl rfl rfl rfl rfl rfl rfl rfl ?_ | refine w_end9 rfl rfl rfl rfl rfl rfl rfl rfl rfl ?_ | refine w_end10 rfl rfl rfl rfl rfl rfl rfl rfl rfl rfl ?_ | refine w_end11 rfl rfl rfl rfl rfl rfl rfl rfl rfl rfl rfl ?_ | refine w_end12 rfl rfl rfl rfl rfl rfl rfl rfl rfl rfl rfl rfl ?_) | ((refine i_cons ?_); first | refine k_idxA (esz := 1) rfl rfl (by omega) ?_ | refine k_ld rfl hr ?_ | refine k_ld rfl hr2 ?_ | refine k_st rfl rfl w1 ?_ | refine k_st rfl rfl w2 ?_ | refine k_st rfl rfl w3 ?_ | refine k_st rfl rfl w4 ?_ | refine k_st rfl rfl w5 ?_ | refine k_st rfl rfl w6 ?_ | refine k_ld rfl rA ?_ | refine k_ld rfl rB ?_ | refine k_mv rfl ?_ | refine k_add rfl rfl (by omega) ?_ | refine k_sub rfl rfl (by omega) ?_ | refine k_mul rfl rfl (by omega) ?_ | refine k_neg rfl (by omega) ?_ | refine k_max rfl rfl ?_ | refine k_lssT rfl rfl (by omega) ?_ | refine k_eqlT rfl rfl (by omega) ?_))
        exact w_roundN ⟨i + 1, by omega, by rw [eI, eO]; exact s6, rfl⟩ (by simp [cntD, Env.get]; omega)
      · rw [if_neg hx1] at eI eO
        repeat' (first | refine w_seq ?_ | refine w_seqN ?_ | refine w_blk ?_ | refine w_blkN ?_ | refine w_skip ?_ | refine w_ops ?_ | ((refine i_cond ?_); first | refine w_condT rfl ?_ | refine w_condF rfl ?_) | ((refine i_nil ?_); first | refine w_end8 rfl rfl rfl rfl rfl rfl rfl rfl ?_ | refine w_end9 rfl rfl rfl rfl rfl rfl rfl rfl rfl ?_ | refine w_end10 rfl rfl rfl rfl rfl rfl rfl rfl rfl rfl ?_ | refine w_end11 rfl rfl rfl rfl rfl rfl rfl rfl rfl rfl rfl ?_ | refine w_end12 rfl rfl rfl rfl rfl rfl rfl rfl rfl rfl rfl rfl ?_) | ((refine i_cons ?_); first | refine k_idxA (esz := 1) rfl rfl (by omega) ?_ | refine k_ld rfl hr ?_ | refine k_ld rfl hr2 ?_ | refine k_st rfl rfl w1 ?_ | refine k_st rfl rfl w2 ?_ | refine k_st rfl rfl w3 ?_ | refine k_st rfl rfl w4 ?_ | refine k_mv rfl ?_ | refine k_add rfl rfl (by omega) ?_ | refine k_sub rfl rfl (by omega) ?_ | refine k_mul rfl rfl (by omega) ?_ | refine k_neg rfl (by omega) ?_ | refine k_max rfl rfl ?_ | refine k_lssT rfl rfl (by omega) ?_ | refine k_eqlF rfl rfl (by omega) ?_))
        exact w_roundN ⟨i + 1, by omega, by rw [eI, eO]; exact s4, rfl⟩ (by simp [cntD, Env.get]; omega)
    · have i1 : (max v (-v) - 1).toNat = unD v i := by unfold unD; rw [if_neg hneg]; omega
      have i2 : (2 * (i : Int)).toNat = ovD v i := by unfold ovD; rw [if_neg hneg]; omega
      rw [← i1] at w1 w2
      rw [← i2] at w3 w4 w5 w6 rA rB
      have b1 : 0 ≤ max v (-v) - 1 ∧ max v (-v) - 1 < ((2 * vs.length : Nat) : Int) := by omega
      by_cases hx1 : x = -1
      · subst hx1
        rw [if_pos rfl] at eI eO
        repeat' (first | refine w_seq ?_ | refine w_seqN ?_ | refine w_blk ?_ | refine w_blkN ?_ | refine w_skip ?_ | refine w_ops ?_ | refine w_opsD ?_ | refine d_one ?_ | refine d_nil ?_ | ((refine i_cond ?_); first | refine w_condT rfl ?_ | refine w_condF rfl ?_) | ((refine i_nil ?_); first | refine d_same ?_ | refine d_ord ?_ | refine w_end8 rfl rfl rfl rfl rfl rfl rfl rfl ?_ | refine w_end9 rfl rfl rfl rfl rfl rfl rfl rfl rfl ?_ | refine w_end10 rfl rfl rfl rfl rfl rfl rfl rfl rfl rfl ?_ | refine w_end12 rfl rfl rfl rfl rfl rfl rfl rfl rfl rfl rfl rfl ?_) | ((refine i_cons ?_); first | refine k_idxA (esz := 1) rfl rfl (by omega) ?_ | refine k_ld rfl hr ?_ | refine k_ld rfl hr2 ?_ | refine k_st rfl rfl w1 ?_ | refine k_st rfl rfl w2 ?_ | refine k_st rfl rfl w3 ?_ | refine k_st rfl rfl w4 ?_ | refine k_st rfl rfl w5 ?_ | refine k_st rfl rfl w6 ?_ | refine k_ld rfl rA ?_ | refine k_ld rfl rB ?_ | refine k_mv rfl ?_ | refine k_add rfl rfl (by omega) ?_ | refine k_sub rfl rfl (by omega) ?_ | refine k_mul rfl rfl (by omega) ?_ | refine k_neg rfl (by omega) ?_ | refine k_max rfl rfl ?_ | refine k_lssT rfl rfl (by omega) ?_ | refine k_lssF rfl rfl (by omega) ?_ | refine k_eqlT rfl rfl (by omega) ?_))
        exact w_roundN ⟨i + 1, by omega, by rw [eI, eO]; exact s6, rfl⟩ (by simp [cntD, Env.get]; omega)
      · rw [if_neg hx1] at eI eO
        repeat' (first | refine w_seq ?_ | refine w_seqN ?_ | refine w_blk ?_ | refine w_blkN ?_ | refine w_skip ?_ | refine w_ops ?_ | ((refine i_cond ?_); first | refine w_condT rfl ?_ | refine w_condF rfl ?_) | ((refine i_nil ?_); first | refine w_end8 rfl rfl rfl rfl rfl rfl rfl rfl ?_ | refine w_end9 rfl rfl rfl rfl rfl rfl rfl rfl rfl ?_ | refine w_end10 rfl rfl rfl rfl rfl rfl rfl rfl rfl rfl ?_ | refine w_end12 rfl rfl rfl rfl rfl rfl rfl rfl rfl rfl rfl rfl ?_) | ((refine i_cons ?_); first | refine k_idxA (esz := 1) rfl rfl (by omega) ?_ | refine k_ld rfl hr ?_ | refine k_ld rfl hr2 ?_ | refine k_st rfl rfl w1 ?_ | refine k_st rfl rfl w2 ?_ | refine k_st rfl rfl w3 ?_ | refine k_st rfl rfl w4 ?_ | refine k_mv rfl ?_ | refine k_add rfl rfl (by omega) ?_ | refine k_sub rfl rfl (by omega) ?_ | refine k_mul rfl rfl (by omega) ?_ | refine k_neg rfl (by omega) ?_ | refine k_max rfl rfl ?_ | refine k_lssT rfl rfl (by omega) ?_ | refine k_lssF rfl rfl (by omega) ?_ | refine k_eqlF rfl rfl (by omega) ?_))
        exact w_roundN ⟨i + 1, by omega, by rw [eI, eO]; exact s4, rfl⟩ (by simp [cntD, Env.get]; omega)
  · have : i = vs.length := by omega
    subst this
    repeat' (first | refine w_seq ?_ | refine w_seqN ?_ | refine w_seqX ?_ | refine w_exit ?_ | refine w_ops ?_ | ((refine i_cond ?_); refine w_condF rfl ?_) | ((refine i_nil ?_); refine w_end9 rfl rfl rfl rfl rfl rfl rfl rfl rfl ?_) | ((refine i_cons ?_); refine k_lssF rfl rfl (by omega) ?_))
    exact w_roundX ⟨rfl, st, _, _, _, _, rfl⟩
section
variable {FT : FuncId → Option AFun} {E : Env} {h : Heap} {K : Env → Heap → Prop} {d : Option Nat} {r : List AOp} {x y : AO} {m n : Int}
theorem k_remD {z : Int} (hz : m % n = z) (hx : evS E x = some (.int .i64 m)) (hy : evS E y = some (.int .i64 n)) (hr : 0 ≤ m ∧ 0 < n) (hw : wOps FT HK r (bindE d (some (.sc (.int .i64 z))) E) h K) : wOps FT HK (⟨d, .bin .rem x y, none⟩ :: r) E h K := by
  subst hz; exact k_rem hx hy hr hw
end
/-! ### The mates -/
theorem mtT_step (n : Nat) (I O : List Int) (k : Nat) : mtT n I O (k + 1) = ((mtT n I O k).set (O.getD k 0).toNat (I.getD ((k + 1) % (2 * n)) 0)).set (I.getD ((k + 1) % (2 * n)) 0).toNat (O.getD k 0) := rfl
def I34b (hb : Heap) (s A B M : SV) (q : Nat) (vs xs : List Int) (E : Env) (h : Heap) : Prop := ∃ k : Nat, k ≤ 2 * vs.length ∧ Ext hb h ∧ Own hb h M (ints (mtT vs.length (inD vs xs vs.length) (outD vs xs vs.length) k)) ∧
  E = [(1, some (.sc s)), (4, some (.sc (.ptr q 0))), (5, some (.sc (.int .i64 (vs.length : Nat)))), (6, some (.sc A)), (12, some (.sc M)), (88, some (.sc B)), (89, some (.sc (.int .i64 ((2 * vs.length : Nat) : Int)))), (90, some (.sc (.int .i64 (k : Nat))))]
def R34b (hb : Heap) (s M : SV) (q : Nat) (vs xs : List Int) (ex : Ex) (E : Env) (h : Heap) : Prop := ex = .ex 2 ∧ Ext hb h ∧ Own hb h M (ints (mtD vs xs)) ∧ ∃ a b c d e f,
  E = [(1, some (.sc s)), (4, some (.sc (.ptr q 0))), (5, a), (6, b), (12, some (.sc M)), (88, c), (89, d), (90, e), (91, f)]
theorem rng_in {vs xs : List Int} {k : Nat} (hn : 0 < vs.length) : 0 ≤ (inD vs xs vs.length).getD k 0 ∧ (inD vs xs vs.length).getD k 0 < ((4 * vs.length : Nat) : Int) := by
  rcases inD_rng (xs := xs) _ (Nat.le_refl vs.length) k with h | h
  · exact h
  · rw [h]; omega
theorem rng_out {vs xs : List Int} {k : Nat} (hn : 0 < vs.length) : 0 ≤ (outD vs xs vs.length).getD k 0 ∧ (outD vs xs vs.length).getD k 0 < ((4 * vs.length : Nat) : Int) := by
  rcases outD_rng (xs := xs) _ (Nat.le_refl vs.length) k with h | h
  · exact h
  · rw [h]; omega
theorem getD_some {L : List Int} {k : Nat} (hk : k < L.length) : L[k]? = some (L.getD k 0) := by simp [List.getD, hk]
theorem round34b (hb : Heap) (s A B M : SV) (q : Nat) (vs xs : List Int) (hn : 0 < vs.length) (h64 : vs.length ≤ 64) (hA : IsInts hb A (inD vs xs vs.length)) (hB : IsInts hb B (outD vs xs vs.length)) (E : Env) (h : Heap) (hI : I34b hb s A B M q vs xs E h) :
    wA FT HK b34L1 (E.keep [1, 4, 5, 6, 12, 88, 89, 90]) h (wRound (I34b hb s A B M q vs xs) (cntD (2 * vs.length) 90) (cntD (2 * vs.length) 90 E h) (R34b hb s M q vs xs)) := by
  obtain ⟨k, hk, e, ow, rfl⟩ := hI
  have li := inD_len vs xs vs.length
  have lo := outD_len vs xs vs.length
  by_cases hlt : k < 2 * vs.length
  · have hm : (k + 1) % (2 * vs.length) < 2 * vs.length := Nat.mod_lt _ (by omega)
    have hmi : ((k : Int) + 1) % (2 * (vs.length : Int)) = (((k + 1) % (2 * vs.length) : Nat) : Int) := by rw [Int.natCast_emod]; rfl
    have en := mtT_step vs.length (inD vs xs vs.length) (outD vs xs vs.length) k
    have hml := mtT_len vs.length (inD vs xs vs.length) (outD vs xs vs.length) k
    have ra := rng_in (vs := vs) (xs := xs) (k := (k + 1) % (2 * vs.length)) hn
    have rb := rng_out (vs := vs) (xs := xs) (k := k) hn
    have ga := getD_some (L := inD vs xs vs.length) (k := (k + 1) % (2 * vs.length)) (by omega)
    have gb := getD_some (L := outD vs xs vs.length) (k := k) (by omega)
    obtain ⟨id, off, cap, eA, hr⟩ := IsInts.at (IsSl.ext hA e) ga
    obtain ⟨id2, off2, cap2, eB, hr2⟩ := IsInts.at (IsSl.ext hB e) gb
    generalize (inD vs xs vs.length).getD ((k + 1) % (2 * vs.length)) 0 = a at *
    generalize (outD vs xs vs.length).getD k 0 = b at *
    generalize (k + 1) % (2 * vs.length) = z at *
    have hvl : (ints (mtT vs.length (inD vs xs vs.length) (outD vs xs vs.length) k)).length = 4 * vs.length := by rw [List.length_map, hml]
    obtain ⟨id3, cap3, h3, e3, w3, o3, x3, f3, l3⟩ := Own.wr e ow (i := b.toNat) (by omega) (.int .i64 a)
    obtain ⟨id4, cap4, h4, e4, w4, o4, x4, f4, l4⟩ := Own.wr x3 o3 (i := a.toNat) (by rw [List.length_set]; omega) (.int .i64 b)
    rw [hvl] at e3
    rw [List.length_set, hvl] at e4
    subst e3
    cases e4
    rw [li] at eA
    rw [lo] at eB
    subst eA
    subst eB
    repeat' (first | refine w_seq ?_ | refine w_seqN ?_ | refine w_blk ?_ | refine w_blkN ?_ | refine w_skip ?_ | refine w_ops ?_ | ((refine i_cond ?_); refine w_condT rfl ?_) | ((refine i_nil ?_); first | refine w_end8 rfl rfl rfl rfl rfl rfl rfl rfl ?_ | refine w_end9 rfl rfl rfl rfl rfl rfl rfl rfl rfl ?_ | refine w_end10 rfl rfl rfl rfl rfl rfl rfl rfl rfl rfl ?_) | ((refine i_cons ?_); first | refine k_idxA (esz := 1) rfl rfl (by omega) ?_ | refine k_ld rfl hr ?_ | refine k_ld rfl hr2 ?_ | refine k_remD hmi rfl rfl (by omega) ?_ | refine k_st rfl rfl w3 ?_ | refine k_st rfl rfl w4 ?_ | refine k_mv rfl ?_ | refine k_add rfl rfl (by omega) ?_ | refine k_mul rfl rfl (by omega) ?_ | refine k_lssT rfl rfl (by omega) ?_))
    refine w_roundN ⟨k + 1, by omega, x4, ?_, rfl⟩ (by simp [cntD, Env.get]; omega)
    rw [en]
    simpa [ints, List.map_set] using o4
  · have : k = 2 * vs.length := by omega
    subst this
    repeat' (first | refine w_seq ?_ | refine w_seqN ?_ | refine w_seqX ?_ | refine w_exit ?_ | refine w_ops ?_ | ((refine i_cond ?_); refine w_condF rfl ?_) | ((refine i_nil ?_); refine w_end9 rfl rfl rfl rfl rfl rfl rfl rfl rfl ?_) | ((refine i_cons ?_); refine k_lssF rfl rfl (by omega) ?_))
    exact w_roundX ⟨rfl, e, ow, _, _, _, _, _, _, rfl⟩
theorem call34 (hk : HK 34 = none) (hk45 : HK 45 = none) (h0 : Heap) (o s : SV) (vs xs : List Int) (hg : Good vs) (hl : xs.length = vs.length) (ho : IsInts h0 o vs) (hs : IsInts h0 s xs) :
    ∃ v h', Cal FT HK 34 [.sc o, .sc s] h0 v h' ∧ Ext h0 h' ∧ ∃ t m, v = .agg [t, m, .int .i64 0] ∧ IsInts h' t xs ∧ IsInts h' m (mtD vs xs) ∧ FshD h0 t ∧ FshD h0 m := by
  refine Cal.of (F := a34) hk rfl rfl ?_
  have h64 := hg.2.1
  have h1n := hg.1
  have lo := IsSl.len ho
  repeat' (first | refine w_seq ?_ | refine w_seqN ?_ | refine w_blk ?_ | refine w_ops ?_ | ((refine i_nil ?_); first | refine w_end3 rfl rfl rfl ?_ | refine w_end4 rfl rfl rfl rfl ?_ | refine w_end5 rfl rfl rfl rfl rfl ?_ | refine w_end6 rfl rfl rfl rfl rfl rfl ?_ | refine w_end8 rfl rfl rfl rfl rfl rfl rfl rfl ?_) | ((refine i_cons ?_); first | (refine k_new3 ?_; intro h1 e1 l1 c1) | refine k_len rfl lo ?_ | (have z := o2; refine k_mkO (h0 := h1) e2 rfl rfl (by simp only [bigN]; omega) ?_; intro B h3 o3 e3 e3' l3) | (refine k_mkO (h0 := h1) (Ext.refl _) rfl rfl (by simp only [bigN]; omega) ?_; intro A h2 o2 e2 e2' l2) | refine k_mv rfl ?_ | refine k_mul rfl rfl (by omega) ?_))
  have ez : (2 * (vs.length : Int)).toNat = 2 * vs.length := by omega
  rw [ez] at o2 o3
  have ap : Ab.Apart A B := apart_newD o2 (own_fshD o3)
  have tw : Two h1 h3 A B (inD vs xs 0) (outD vs xs 0) := ⟨e3', by simpa [ints, inD] using o2.ext e3, by simpa [ints, outD] using o3.weaken e2.len, ap⟩
  refine w_loop (I34a h1 s o A B h0.length vs xs) (cntD vs.length 26) (R34a h1 s A B h0.length vs xs) ⟨0, Nat.zero_le _, tw, rfl⟩ (round34a h1 s o A B h0.length vs xs hg hl (IsSl.ext hs e1) (IsSl.ext ho e1)) ?_
  rintro ex E' h4 ⟨rfl, s4, u1, u2, u3, u4, rfl⟩
  have lB := Own.len s4.y
  have hlB : ((ints (outD vs xs vs.length)).length : Int) = ((2 * vs.length : Nat) : Int) := by rw [List.length_map, outD_len]
  rw [hlB] at lB
  repeat' (first | refine w_seq ?_ | refine w_seqN ?_ | refine w_blk ?_ | refine w_blkX ?_ | refine w_ops ?_ | ((refine i_nil ?_); first | refine w_end6 rfl rfl rfl rfl rfl rfl ?_ | refine w_end8 rfl rfl rfl rfl rfl rfl rfl rfl ?_) | ((refine i_cons ?_); first | (refine k_mkO (h0 := h4) (Ext.refl _) rfl rfl (by simp only [bigN]; omega) ?_; intro M h5 o5 e5 e5' l5) | refine k_len rfl lB ?_ | refine k_mv rfl ?_ | refine k_mul rfl rfl (by omega) ?_))
  have ez4 : (4 * (vs.length : Int)).toNat = 4 * vs.length := by omega
  rw [ez4] at o5
  have iA : IsInts h4 A (inD vs xs vs.length) := Ab.Own.ids (xs := inD vs xs vs.length) s4.x
  have iB : IsInts h4 B (outD vs xs vs.length) := Ab.Own.ids (xs := outD vs xs vs.length) s4.y
  refine w_loop (I34b h4 s A B M h0.length vs xs) (cntD (2 * vs.length) 90) (R34b h4 s M h0.length vs xs) ⟨0, Nat.zero_le _, e5, by simpa [ints, mtT] using o5, rfl⟩ (round34b h4 s A B M h0.length vs xs (by omega) h64 iA iB) ?_
  rintro ex E' h6 ⟨rfl, e6, o6, u5, u6, u7, u8, u9, u10, rfl⟩
  have c6 := c1.ext (s4.e.trans e6)
  have k45 := call45 hk45 h6 s xs (IsSl.ext hs (e1.trans (s4.e.trans e6))) (by omega)
  repeat' (first | refine w_seq ?_ | refine w_seqN ?_ | refine w_blkX ?_ | refine w_ret ?_ | refine w_ops ?_ | ((refine i_nil ?_); refine w_end1 rfl ?_) | ((refine i_cons ?_); first | (refine k_call rfl k45 ?_; rintro v h7 ⟨e7, t, rfl, it, ft⟩; have c7 := c6.ext e7) | refine k_bld rfl rfl ?_ | (refine k_st3 rfl rfl c7 ?_; intro h8 q8 c8) | refine k_mv rfl ?_))
  have n1 := e1.len
  have n4 := s4.e.len
  have n6 := e6.len
  have x8 : Ext h0 h8 := by rw [q8]; exact (e1.trans (s4.e.trans (e6.trans e7))).set (Nat.le_refl _) _
  have fM : FshD h4 M := own_fshD o6
  have tq : NotAt t h0.length := ft _ (by omega)
  have mq : NotAt M h0.length := fM _ (by omega)
  refine ⟨.inr rfl, oK_cell rfl c8.read ⟨x8, t, M, rfl, ?_, ?_, fun j hj => ft j (by omega), fun j hj => fM j (by omega)⟩⟩
  · rw [q8]
    exact IsSl.keep it fun j b hj hn => by rw [List.getElem?_set_ne (fun e => by subst e; exact hn tq)]; exact hj
  · rw [q8]
    exact IsSl.keep (IsSl.ext (Ab.Own.ids (xs := mtD vs xs) o6) e7) fun j b hj hn => by rw [List.getElem?_set_ne (fun e => by subst e; exact hn mq)]; exact hj
end Go.Proofs.Ytooafhbjbpaacaa
