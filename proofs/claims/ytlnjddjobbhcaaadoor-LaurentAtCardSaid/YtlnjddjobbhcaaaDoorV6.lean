/- The value of the terms whose exponents are negative: contract. -/
import Derived.Test.YtlnjddjobbhcaaaDoorV4
import Derived.Test.YtlnjddjobbhcaaaDoorAb38
namespace Go.Proofs.YtlnjddjobbhcaaaDoor
open Go.Ab
set_option linter.unusedVariables false
set_option linter.unusedSimpArgs false
set_option maxRecDepth 20000
set_option maxHeartbeats 4000000
attribute [local irreducible] wOps wA wSeq wBlk wRound wRoundI wOpsD wOpsS

/-- The coefficients' absolute values, added up. -/
def ca : List Tm → Nat
  | [] => 0
  | t :: r => t.2.natAbs + ca r
theorem ca_app : ∀ (l r : List Tm), ca (l ++ r) = ca l + ca r
  | [], r => by simp [ca]
  | t :: l, r => by rw [List.cons_append, ca, ca, ca_app l r]; omega
theorem ca_take (ts : List Tm) (i : Nat) : ca (ts.take i) ≤ ca ts := by
  have := ca_app (ts.take i) (ts.drop i)
  rw [List.take_append_drop] at this; omega
theorem can_ge {ts : List Tm} (hc : Can ts) {i : Nat} {t : Tm} (h : ts[i]? = some t) : ∀ u ∈ ts.drop (i + 1), t.1 ≤ u.1 := fun u hu => by have := can_le hc h u hu; omega
def I86 (h0 : Heap) (q3 q4 q7 q8 q9 : Nat) (x a0 : Int) (s : SV) (ts : List Tm) (E : Env) (h : Heap) : Prop := ∃ (i : Nat) (n a : Int) (d : Nat), i ≤ ts.length ∧ Lw h0 h0 h q3 q4 q7 q8 q9 n a x d ∧ Fr x a0 (pv x a0 (ts.take i)) (ca (ts.take i)) n a d ∧ ((∀ t ∈ ts.drop i, a ≤ t.1) ∨ n = 0) ∧ a ≤ 0 ∧ a.natAbs ≤ eM ∧
  E.keep [4, 7, 8, 10, 14, 15, 16] = [(4, some (.sc (.ptr q4 0))), (7, some (.sc (.ptr q7 0))), (8, some (.sc (.ptr q8 0))), (10, some (.sc (.fn 98 [(q7, 0), (q9, 0), (q3, 0), (q8, 0)]))), (14, some (.sc s)), (15, some (.sc (.int .i64 (ts.length : Nat)))), (16, some (.sc (.int .i64 (i : Nat))))]
def R86 (h0 : Heap) (q3 q4 q7 q8 q9 : Nat) (x a0 : Int) (ts : List Tm) (ex : Ex) (E : Env) (h : Heap) : Prop := ex = .ex 0 ∧ ∃ (n a : Int) (d : Nat), Lw h0 h0 h q3 q4 q7 q8 q9 n a x d ∧ Fr x a0 (pv x a0 ts) (ca ts) n a d ∧ a ≤ 0 ∧ a.natAbs ≤ eM ∧
  ∃ p r s t, E = [(4, some (.sc (.ptr q4 0))), (7, some (.sc (.ptr q7 0))), (8, some (.sc (.ptr q8 0))), (10, some (.sc (.fn 98 [(q7, 0), (q9, 0), (q3, 0), (q8, 0)]))), (14, p), (15, r), (16, s), (17, t)]
theorem round86 (h0 : Heap) (q3 q4 q7 q8 q9 : Nat) (x a0 : Int) (s : SV) (ts : List Tm) (hs : IsD h0 s (tms ts)) (hc : Can ts) (hx : x ≠ 0 ∧ x.natAbs ≤ 1000000) (he : ∀ t ∈ ts, t.1 ≤ 0 ∧ a0 ≤ t.1 ∧ t.1.natAbs ≤ eM ∧ t.2.natAbs ≤ cM) (hC : ca ts ≤ 1152921504606846976) (hX : x.natAbs ^ (0 - a0).toNat ≤ 1125899906842624) (hl : ts.length ≤ 3000000) (E : Env) (h : Heap) (hI : I86 h0 q3 q4 q7 q8 q9 x a0 s ts E h) :
    wA FT HKt b86L0 (E.keep [4, 7, 8, 10, 14, 15, 16]) h (wRound (I86 h0 q3 q4 q7 q8 q9 x a0 s ts) (cK [4, 7, 8, 10, 14, 15, 16] ts.length 16) (cK [4, 7, 8, 10, 14, 15, 16] ts.length 16 E h) (R86 h0 q3 q4 q7 q8 q9 x a0 ts)) := by
  obtain ⟨i, n, a, d, hi, u, f, hor, ha0, hae, hE⟩ := hI
  have hm : cK [4, 7, 8, 10, 14, 15, 16] ts.length 16 E h = ts.length - i := by unfold cK; rw [hE]; rfl
  rw [hm, hE]
  have hX0 : 0 < x.natAbs := by omega
  by_cases hlt : i < ts.length
  · obtain ⟨t, ht⟩ : ∃ t, ts[i]? = some t := ⟨_, List.getElem?_eq_getElem hlt⟩
    have htm := List.mem_of_getElem? ht
    obtain ⟨t0, t1, te, tc⟩ := he t htm
    obtain ⟨id, off, cap, e1, r0⟩ := hs.at (i := i) (p := tmP t) (by simp [ht])
    rw [tms_len] at e1
    subst e1
    have r1 := readN_ext u.e r0
    have tk : ts.take (i + 1) = ts.take i ++ [t] := by rw [List.take_add_one, ht]; rfl
    have hor2 : a ≤ t.1 ∨ n = 0 := hor.imp (fun h => h t (by rw [drop_cons' ht]; exact .head _)) (fun h => h)
    have hCi := Nat.le_trans (ca_take ts i) hC
    have k98 := fun h2 (e2 : Ext h h2) => call98 h0 h2 h2 q3 q4 q7 q8 q9 x a0 _ _ t.1 n a d hx ⟨t0, te⟩ hCi hX (u.ext e2).re f hor2 hae t1
    have k41 := fun H (d' : Nat) (hd : d' ≤ 1125899906842624) => call41 H t.2 (d' : Int) (by simp only [cM] at tc; omega) (by omega)
    have k40 := fun H n' (d' : Nat) => call40 H n' (t.2 * d')
    have fin : ∀ n' (d' : Nat), Fr x a0 (pv x a0 (ts.take i)) (ca (ts.take i)) n' t.1 d' → Fr x a0 (pv x a0 (ts.take (i + 1))) (ca (ts.take (i + 1))) (n' + t.2 * d') t.1 d' := fun n' d' f' => by
      have := f'.add t.2
      rw [tk, pv_app, ca_app]
      have e1 : pv x a0 [t] = t.2 * x ^ (t.1 - a0).toNat := by rw [pv_cons]; show _ + 0 = _; omega
      rw [e1]; exact this
    simp only [wd_P] at k41 k40
    have o := u.ord
    have u9lt := u.c9.lt
    repeat' (first | refine w_seq ?_ | refine w_seqN ?_ | refine w_blk ?_ | refine w_blkN ?_ | refine w_skip ?_ | refine w_ops ?_ | refine w_opsD ?_ | refine d_one ?_ | refine d_nil ?_ | ((refine i_cond ?_); first | refine w_condT rfl ?_ | refine w_condF rfl ?_) | ((refine i_nil ?_); first | refine d_same ?_ | refine d_ord ?_ | refine d_ext (by assumption) ?_ | refine w_end7 rfl rfl rfl rfl rfl rfl rfl ?_ | refine w_end8 rfl rfl rfl rfl rfl rfl rfl rfl ?_ | refine w_end9 rfl rfl rfl rfl rfl rfl rfl rfl rfl ?_) | ((refine i_cons ?_); first | refine k_idxA (esz := 2) rfl rfl (by omega) ?_ | refine k_ldD rfl r1 ?_ | (refine k_newst rfl ?_; intro h2 e2 c12; have k98' := k98 h2 e2) | refine k_fldA rfl ?_ | refine k_ldC0 rfl c12 ?_ | (refine k_callvC rfl rfl k98' ?_; rintro r h3 ⟨⟨n', d', u3, f3⟩, rfl⟩; have d12 : Cel h3 h.length _ _ := u3.k _ _ c12 (by omega) (by omega) (by omega); have hd3 : d' ≤ 1125899906842624 := Nat.le_trans f3.dX (Nat.le_trans (Nat.pow_le_pow_right hX0 (by omega)) hX); have u3_8 := u3.c8.at) | refine k_ldC rfl u3.c7 ?_ | refine k_ldC1 rfl d12 ?_ | refine k_ldb rfl u3_8 rfl ?_ | (refine k_call rfl (k41 h3 d' hd3) ?_; rintro r h4 ⟨e4, rfl⟩; have u4 := u3.ext e4) | (refine k_call rfl (k40 h4 n' d') ?_; rintro r h5 ⟨e5, rfl⟩; have u5 := u4.ext e5; have c7_5 := u5.c7) | (refine k_stC rfl rfl c7_5 ?_; intro h6 w6; have u6 := u5.st7 w6) | refine k_mv rfl ?_ | refine k_notT rfl ?_ | refine k_add rfl rfl (by omega) ?_ | refine k_lssT rfl rfl (by omega) ?_))
    refine w_roundN ⟨i + 1, n' + t.2 * d', t.1, d', by omega, ⟨u6.e, u6.c3, u6.c4, u6.c7, u6.c8, u6.c9, u6.ord, fun j b hj _ _ _ => u6.e.get _ _ hj⟩, fin n' d' f3, .inl (can_ge hc ht), t0, te, rfl⟩ (by simp [cK, Env.keep, Env.get]; omega)
  · have : i = ts.length := by omega
    subst this
    rw [List.take_length] at f
    repeat' (first | refine w_seq ?_ | refine w_seqN ?_ | refine w_seqX ?_ | refine w_exit ?_ | refine w_ops ?_ | ((refine i_cond ?_); refine w_condF rfl ?_) | ((refine i_nil ?_); refine w_end8 rfl rfl rfl rfl rfl rfl rfl rfl ?_) | ((refine i_cons ?_); refine k_lssF rfl rfl (by omega) ?_))
    exact w_roundX ⟨rfl, n, a, d, u, f, ha0, hae, _, _, _, _, rfl⟩
theorem oK_celltt {E : Env} {h : Heap} {a id off n t t2 : Nat} {vs : List SV} {v v2 : SV} {Q : AV → Prop} (hE : E.get a = some (.sc (.ptr id off))) (hr : readN h id off n = some vs) (ht : E.get t = some (.sc v)) (ht2 : E.get t2 = some (.sc v2)) (hK : Q (.tup [.agg vs, .sc v, .sc v2])) : oK (resultsA [.cell a n true, .t t, .t t2] E h) Q := by
  have : resultsA [.cell a n true, .t t, .t t2] E h = some (.tup [.agg vs, .sc v, .sc v2]) := by simp only [resultsA, resAll, resOne, hE, hr, ht, ht2, Option.bind_some, cellsAV, if_true, AV.pv, Option.map_some]
  rw [this]; exact hK
theorem call86 (h0 : Heap) (s : SV) (ts : List Tm) (x a0 : Int) (hs : IsD h0 s (tms ts)) (hc : Can ts) (hx : x ≠ 0 ∧ x.natAbs ≤ 1000000) (ha0 : a0 ≤ 0) (he : ∀ t ∈ ts, t.1 ≤ 0 ∧ a0 ≤ t.1 ∧ t.1.natAbs ≤ eM ∧ t.2.natAbs ≤ cM) (hC : ca ts ≤ 1152921504606846976) (hX : x.natAbs ^ (0 - a0).toNat ≤ 1125899906842624) (hl : ts.length ≤ 3000000) :
    ∃ r h', Cal FT HKt 86 [.sc s, .sc (.int .i64 x)] h0 r h' ∧ Ext h0 h' ∧ ∃ (n : Int) (d : Nat), Fr x a0 (pv x a0 ts) (ca ts) n 0 d ∧ r = .tup [.agg (wd n), .sc (.int .i64 (d : Nat)), .sc (.bool true)] := by
  refine Cal.of (F := a86) rfl rfl rfl ?_
  have ls := hs.len
  rw [tms_len] at ls
  have hX0 : 0 < x.natAbs := by omega
  repeat' (first | refine w_seq ?_ | refine w_seqN ?_ | refine w_blk ?_ | refine w_ops ?_ | ((refine i_nil ?_); first | refine w_end3 rfl rfl rfl ?_ | refine w_end4 rfl rfl rfl rfl ?_ | refine w_end5 rfl rfl rfl rfl rfl ?_ | refine w_end6 rfl rfl rfl rfl rfl rfl ?_ | refine w_end7 rfl rfl rfl rfl rfl rfl rfl ?_) | ((refine i_cons ?_); first | (have z := e8; refine k_new1 ?_; intro h9 e9 c9; have u9 : Lw h0 h0 h9 h0.length h3.length h4.length h7.length h8.length 0 0 x 0 := ⟨e3.trans (e4.trans (e7.trans (e8.trans e9))), c3.ext (e4.trans (e7.trans (e8.trans e9))), c4.ext (e7.trans (e8.trans e9)), c7.ext (e8.trans e9), Cel1.ext c8 e9, c9, ⟨Nat.le_refl _, c3.lt, c4.lt, c7.lt, Cel1.lt c8⟩, fun j b hj _ _ _ => (e3.trans (e4.trans (e7.trans (e8.trans e9)))).get _ _ hj⟩) | (have z := e7; refine k_new1 ?_; intro h8 e8 c8) | (have z := e4; refine k_newC ?_; intro h7 e7 c7) | (have z := e3; refine k_newC ?_; intro h4 e4 c4) | (refine k_box1 rfl ?_; intro h3 e3 c3) | (refine k_st1' rfl rfl u9.c8 ?_; intro hA wA cA; have uA := u9.st8 (d' := 1) wA cA) | (refine k_st1' rfl rfl uA.c9 ?_; intro hB wB cB; have uB := uA.st9 wB cB) | refine k_len rfl ls ?_ | refine k_mv rfl ?_ | refine k_ok rfl rfl ?_))
  have f0 : Fr x a0 (pv x a0 (ts.take 0)) (ca (ts.take 0)) 0 0 1 := ⟨by simp [pv, S], by simp, Nat.le_refl _, Nat.pow_pos hX0, by simp [pv, S], ha0⟩
  refine w_loop (I86 h0 h0.length h3.length h4.length h7.length h8.length x a0 s ts) (cK [4, 7, 8, 10, 14, 15, 16] ts.length 16) (R86 h0 h0.length h3.length h4.length h7.length h8.length x a0 ts) ⟨0, 0, 0, 1, Nat.zero_le _, uB, f0, .inr rfl, Int.le_refl _, by simp, rfl⟩ (round86 h0 h0.length h3.length h4.length h7.length h8.length x a0 s ts hs hc hx he hC hX hl) ?_
  rintro ex E' hC' ⟨rfl, n, a, d, uC, fC, haC, haeC, _, _, _, _, rfl⟩
  have k98 := call98 h0 h0 hC' _ _ _ _ _ x a0 _ _ 0 n a d hx ⟨Int.le_refl _, by simp⟩ hC hX uC fC (.inl haC) haeC ha0
  repeat' (first | refine w_seq ?_ | refine w_seqN ?_ | refine w_blkX ?_ | refine w_skip ?_ | refine w_ops ?_ | ((refine i_cond ?_); refine w_condF rfl ?_) | ((refine i_nil ?_); refine w_end4 rfl rfl rfl rfl ?_) | ((refine i_cons ?_); first | (refine k_callvC rfl rfl k98 ?_; rintro r hD ⟨⟨n', d', uD, fD⟩, rfl⟩) | refine k_mv rfl ?_ | refine k_notT rfl ?_))
  have o := uD.ord
  have c4D := uD.c4
  have c8D := uD.c8.at
  refine w_opsS [h4.length, h7.length] ?_
  refine s_one (by intro id hid; cases hid; simp) ?_
  refine k_ldC rfl uD.c7 ?_
  refine s_same ?_
  refine s_one (by intro id hid; cases hid; simp) ?_
  refine k_ldb rfl c8D rfl ?_
  refine s_same ?_
  refine s_one (by intro id hid; cases hid) ?_
  refine k_stC rfl rfl c4D ?_
  intro hE wE
  refine s_ord (fun id hid => ?_) ?_
  · rw [wE.eq, List.getElem?_set_ne]
    intro e
    subst e
    simp at hid
    omega
  refine s_one (by intro id hid; cases hid) ?_
  refine k_mv rfl ?_
  refine s_same ?_
  refine s_one (by intro id hid; cases hid) ?_
  refine k_mv rfl ?_
  refine s_same ?_
  refine s_nil ?_
  refine w_nilK ?_
  repeat' (first | refine w_seqN ?_ | refine w_ret ?_)
  exact ⟨.inr rfl, oK_celltt rfl wE.cel.read rfl rfl ⟨wE.ext uD.e (by omega), n', d', fD, rfl⟩⟩
end Go.Proofs.YtlnjddjobbhcaaaDoor


/- The value as a fraction: contract. -/
namespace Go.Proofs.YtlnjddjobbhcaaaDoor
open Go.Ab
set_option linter.unusedVariables false
set_option linter.unusedSimpArgs false
set_option maxRecDepth 20000
set_option maxHeartbeats 4000000
attribute [local irreducible] wOps wA wSeq wBlk wRound wRoundI wOpsD wOpsS

theorem IsD.part {h : Heap} {s : SV} {ps : List P2} (hs : IsD h s ps) {l u : Nat} (hlu : l ≤ u) (hu : u ≤ ps.length) : ∃ s', sliceS h 2 l u s = some s' ∧ IsD h s' ((ps.drop l).take (u - l)) := by
  rcases hs with ⟨rfl, h1, h2⟩ | ⟨id, off, cap, b, rfl, h1, h2, h3, h4⟩
  · refine ⟨.nilS, by simp [sliceS]; omega, ?_⟩
    have : (ps.drop l).take (u - l) = [] := List.eq_nil_of_length_eq_zero (by simp; omega)
    rw [this]; exact IsD.nil _
  · refine ⟨.slc id (off + l * (2 : ESz).n) (u - l) (cap.map (· - l)), by simp only [sliceS, h1]; rw [if_pos ⟨h2, hlu, hu⟩], ?_⟩
    have hlen : ((ps.drop l).take (u - l)).length = u - l := by simp; omega
    refine .inr ⟨id, off + l * 2, _, b, by rw [hlen]; rfl, h1, h2, fun h => ?_, fun hp => ?_⟩
    · rw [List.eq_nil_of_length_eq_zero h]; rfl
    · rw [hlen] at hp
      obtain ⟨cs, rw', e1, e2⟩ := h4 (by omega)
      refine ⟨cs, rw', e1, ?_⟩
      unfold cut at e2 ⊢
      simp only [ez2] at e2 ⊢
      split at e2
      · rename_i hle
        rw [hlen, if_pos (by omega)]
        simp only [Option.some.injEq] at e2 ⊢
        rw [prs_take, prs_drop, ← e2, List.drop_take, List.take_take, List.drop_drop, Nat.min_eq_left (by omega)]
      · cases e2
section
variable {FT : FuncId → Option AFun} {HK : FuncId → Option Hook} {E : Env} {h h0 : Heap} {K : Env → Heap → Prop} {d : Option Nat} {r : List AOp} {x y xo so : AO} {m n : Int}
theorem k_slF {S : SV} {ps : List P2} {lo : AO} {l : Nat} (hs : IsD h S ps) (hx : evS E x = some S) (hl : evS E lo = some (.int .i64 (l : Nat))) (hb : l ≤ ps.length)
    (hw : ∀ s', IsD h s' (ps.drop l) → wOps FT HK r (bindE d (some (.sc s')) E) h K) :
    wOps FT HK (⟨d, .sl 2 x (some lo) none, none⟩ :: r) E h K := by
  obtain ⟨s', e1, e2⟩ := IsD.part hs hb (Nat.le_refl _)
  rw [List.take_of_length_le (by simp)] at e2
  refine op_ok (v := some (.sc s')) (h' := h) rfl rfl ?_ (hw s' e2)
  have : (0 : Int) ≤ (l : Int) := by omega
  simp only [step1, hx, hl, hs.len, bnd, Option.bind_some, this, if_true, Int.toNat_natCast, e1, Option.map_some]
theorem k_slT {S : SV} {ps : List P2} {hi : AO} {u : Nat} (hs : IsD h S ps) (hx : evS E x = some S) (hl : evS E hi = some (.int .i64 (u : Nat))) (hb : u ≤ ps.length)
    (hw : ∀ s', IsD h s' (ps.take u) → wOps FT HK r (bindE d (some (.sc s')) E) h K) :
    wOps FT HK (⟨d, .sl 2 x none (some hi), none⟩ :: r) E h K := by
  obtain ⟨s', e1, e2⟩ := IsD.part hs (Nat.zero_le u) hb
  rw [List.drop_zero, Nat.sub_zero] at e2
  refine op_ok (v := some (.sc s')) (h' := h) rfl rfl ?_ (hw s' e2)
  have : (0 : Int) ≤ (u : Int) := by omega
  simp only [step1, hx, hl, hs.len, bnd, Option.bind_some, this, if_true, Int.toNat_natCast, e1, Option.map_some]
end
theorem ca_le (X : Nat) (hX : 0 < X) (a : Int) : ∀ ts : List Tm, ca ts ≤ pa X a ts
  | [] => Nat.le_refl _
  | t :: r => by
    rw [ca, pa]
    have := ca_le X hX a r
    have := Nat.le_mul_of_pos_right t.2.natAbs (Nat.pow_pos (n := (t.1 - a).toNat) hX)
    omega
/-- The value, m over d, in lowest terms. -/
structure IsFr (x a0 : Int) (ts : List Tm) (m : Int) (d : Nat) : Prop where
  eq : m * x ^ (0 - a0).toNat = d * pv x a0 ts
  cop : Nat.gcd m.natAbs d = 1
  d1 : 1 ≤ d
  dX : d ≤ x.natAbs ^ (0 - a0).toNat
theorem IsFr.bound {x a0 : Int} {ts : List Tm} {m : Int} {d : Nat} (f : IsFr x a0 ts m d) (hX : 0 < x.natAbs) : m.natAbs ≤ pa x.natAbs a0 ts := by
  have h1 := congrArg Int.natAbs f.eq
  rw [Int.natAbs_mul, Int.natAbs_mul, Int.natAbs_pow, show ((d : Nat) : Int).natAbs = d from rfl] at h1
  have h2 := Nat.mul_le_mul f.dX (pv_abs x a0 ts)
  rw [← h1, Nat.mul_comm] at h2
  exact Nat.le_of_mul_le_mul_left h2 (Nat.pow_pos hX)
def I64 (h0 h : Heap) (q2 : Nat) (x : Int) (ts : List Tm) (E : Env) (h' : Heap) : Prop := h' = h ∧ ∃ i : Nat, i ≤ ts.length ∧ (∀ t ∈ ts.take i, t.1 < 0) ∧
  E.keep [1, 2, 7] = [(1, some (.sc (.int .i64 x))), (2, some (.sc (.ptr q2 0))), (7, some (.sc (.int .i64 (i : Nat))))]
def R64 (h0 h : Heap) (q2 : Nat) (x : Int) (ts : List Tm) (ex : Ex) (E : Env) (h' : Heap) : Prop := h' = h ∧ ex = .ex 0 ∧ ∃ (i : Nat), i ≤ ts.length ∧ (∀ t ∈ ts.take i, t.1 < 0) ∧ (∀ t ∈ ts.drop i, 0 ≤ t.1) ∧ ∃ p,
  E = [(1, some (.sc (.int .i64 x))), (2, some (.sc (.ptr q2 0))), (7, some (.sc (.int .i64 (i : Nat)))), (25, p)]
theorem round64 (h0 h : Heap) (q2 : Nat) (x : Int) (b : Bool) (s : SV) (ts : List Tm) (hs : IsD h s (tms ts)) (hc : Can ts) (c2 : Cel h q2 (.bool b) s) (hl : ts.length ≤ 3000000) (E : Env) (h' : Heap) (hI : I64 h0 h q2 x ts E h') :
    wA FT HKt b64L0 (E.keep [1, 2, 7]) h' (wRound (I64 h0 h q2 x ts) (cK [1, 2, 7] ts.length 7) (cK [1, 2, 7] ts.length 7 E h') (R64 h0 h q2 x ts)) := by
  obtain ⟨rfl, i, hi, hn, hE⟩ := hI
  have hm : cK [1, 2, 7] ts.length 7 E h' = ts.length - i := by unfold cK; rw [hE]; rfl
  rw [hm, hE]
  have ls := hs.len
  rw [tms_len] at ls
  by_cases hlt : i < ts.length
  · obtain ⟨t, ht⟩ : ∃ t, ts[i]? = some t := ⟨_, List.getElem?_eq_getElem hlt⟩
    obtain ⟨id, off, cap, e1, r0⟩ := hs.at (i := i) (p := tmP t) (by simp [ht])
    rw [tms_len] at e1
    subst e1
    have r1 := (rd1 r0).1
    by_cases ht0 : t.1 < 0
    · repeat' (first | refine w_seq ?_ | refine w_seqN ?_ | refine w_blk ?_ | refine w_blkN ?_ | refine w_skip ?_ | refine w_ops ?_ | ((refine i_cond ?_); refine w_condT rfl ?_) | ((refine i_nil ?_); first | refine w_end3 rfl rfl rfl ?_ | refine w_end4 rfl rfl rfl rfl ?_) | ((refine i_cons ?_); first | refine k_fldA rfl ?_ | refine k_ldC1 rfl c2 ?_ | refine k_len rfl ls ?_ | refine k_idxA (esz := 2) rfl rfl (by omega) ?_ | refine k_ld rfl r1 ?_ | refine k_want rfl ?_ | refine k_mv rfl ?_ | refine k_pickT rfl rfl ?_ | refine k_add rfl rfl (by omega) ?_ | refine k_lssT rfl rfl (by omega) ?_))
      refine w_roundN ⟨rfl, i + 1, by omega, fun u hu => ?_, rfl⟩ (by simp [cK, Env.keep, Env.get]; omega)
      rw [List.take_add_one, ht] at hu
      rcases List.mem_append.1 hu with hu | hu
      · exact hn u hu
      · simp at hu; subst hu; exact ht0
    · repeat' (first | refine w_seq ?_ | refine w_seqN ?_ | refine w_seqX ?_ | refine w_exit ?_ | refine w_ops ?_ | ((refine i_cond ?_); refine w_condF rfl ?_) | ((refine i_nil ?_); refine w_end4 rfl rfl rfl rfl ?_) | ((refine i_cons ?_); first | refine k_fldA rfl ?_ | refine k_ldC1 rfl c2 ?_ | refine k_len rfl ls ?_ | refine k_idxA (esz := 2) rfl rfl (by omega) ?_ | refine k_ld rfl r1 ?_ | refine k_want rfl ?_ | refine k_mv rfl ?_ | refine k_pickT rfl rfl ?_ | refine k_lssT rfl rfl (by omega) ?_ | refine k_lssF rfl rfl (by omega) ?_))
      refine w_roundX ⟨rfl, rfl, i, hi, hn, fun u hu => ?_, _, rfl⟩
      rw [drop_cons' ht] at hu
      rcases List.mem_cons.1 hu with rfl | hu
      · omega
      · have := can_le hc ht u hu; omega
  · have : i = ts.length := by omega
    subst this
    repeat' (first | refine w_seq ?_ | refine w_seqN ?_ | refine w_seqX ?_ | refine w_exit ?_ | refine w_ops ?_ | ((refine i_cond ?_); refine w_condF rfl ?_) | ((refine i_nil ?_); refine w_end4 rfl rfl rfl rfl ?_) | ((refine i_cons ?_); first | refine k_fldA rfl ?_ | refine k_ldC1 rfl c2 ?_ | refine k_len rfl ls ?_ | refine k_skip rfl ?_ | refine k_mv rfl ?_ | refine k_pickF rfl rfl ?_ | refine k_lssF rfl rfl (by omega) ?_))
    exact w_roundX ⟨rfl, rfl, _, hi, hn, by rw [List.drop_length]; simp, _, rfl⟩
theorem call64 (h0 : Heap) (b : Bool) (s : SV) (ts : List Tm) (x a0 : Int) (hs : IsD h0 s (tms ts)) (hc : Can ts) (hx : x ≠ 0 ∧ x.natAbs ≤ 1000000) (ha0 : a0 ≤ 0) (he : ∀ t ∈ ts, a0 ≤ t.1 ∧ t.1.natAbs ≤ eM ∧ t.2.natAbs ≤ cM) (hB : pa x.natAbs a0 ts ≤ 1125899906842624) (hX : x.natAbs ^ (0 - a0).toNat ≤ 1125899906842624) (hl : ts.length ≤ 3000000) :
    ∃ r h', Cal FT HKt 64 [.agg [.bool b, s], .sc (.int .i64 x)] h0 r h' ∧ Ext h0 h' ∧ ∃ (m : Int) (d : Nat), IsFr x a0 ts m d ∧ r = .tup [.sc (.int .i64 m), .sc (.int .i64 (d : Nat)), .sc (.int .i64 0)] := by
  refine Cal.of (F := a64) rfl rfl rfl ?_
  have hX0 : 0 < x.natAbs := by omega
  repeat' (first | refine w_seq ?_ | refine w_seqN ?_ | refine w_blk ?_ | refine w_ops ?_ | ((refine i_nil ?_); first | refine w_end2 rfl rfl ?_ | refine w_end3 rfl rfl rfl ?_) | ((refine i_cons ?_); first | (refine k_boxC rfl ?_; intro h1 e1 c1) | refine k_mv rfl ?_))
  refine w_loop (I64 h0 h1 h0.length x ts) (cK [1, 2, 7] ts.length 7) (R64 h0 h1 h0.length x ts) ⟨rfl, 0, Nat.zero_le _, by simp, rfl⟩ (round64 h0 h1 h0.length x b s ts (hs.ext e1) hc c1 hl) ?_
  rintro ex E' h2 ⟨rfl, rfl, i, hi, hneg, hpos, _, rfl⟩
  have sub1 : (ts.take i).Sublist ts := List.take_sublist _ _
  have sub2 : (ts.drop i).Sublist ts := List.drop_sublist _ _
  have hc1 : Can (ts.take i) := ⟨hc.asc.sublist sub1, fun t ht => hc.nz t (sub1.subset ht)⟩
  have hc2 : Can (ts.drop i) := ⟨hc.asc.sublist sub2, fun t ht => hc.nz t (sub2.subset ht)⟩
  have hsum := pa_app x.natAbs a0 (ts.take i) (ts.drop i)
  rw [List.take_append_drop] at hsum
  have hm0 := pa_mono hX0 ha0 hpos
  have hcl := ca_le x.natAbs hX0 a0 (ts.take i)
  have k85 := fun H s' (e : IsD H s' (tms (ts.drop i))) => call85 H s' (ts.drop i) x e hc2 hx (fun t ht => ⟨hpos t ht, (he t (sub2.subset ht)).2.1⟩) (by omega) (by rw [List.length_drop]; omega)
  have k86 := fun H s' (e : IsD H s' (tms (ts.take i))) => call86 H s' (ts.take i) x a0 e hc1 hx ha0 (fun t ht => ⟨by have := hneg t ht; omega, (he t (sub1.subset ht)).1, (he t (sub1.subset ht)).2.1, (he t (sub1.subset ht)).2.2⟩) (by omega) hX (by rw [List.length_take]; omega)
  have hwb := pv_abs x 0 (ts.drop i)
  have fin : ∀ (n : Int) (d : Nat), Fr x a0 (pv x a0 (ts.take i)) (ca (ts.take i)) n 0 d → IsFr x a0 ts (n + pv x 0 (ts.drop i) * d) d ∧ d ≤ 1125899906842624 := fun n d f => by
    refine ⟨⟨?_, (f.add (pv x 0 (ts.drop i))).cop, f.d1, f.dX⟩, Nat.le_trans f.dX hX⟩
    have h1 := pv_app x a0 (ts.take i) (ts.drop i)
    rw [List.take_append_drop] at h1
    rw [h1, pv_shift x ha0 hpos, Int.add_mul, f.eq, Int.mul_add, Int.mul_right_comm, Int.mul_comm _ (d : Int)]
  have htd : tms (ts.drop i) = (tms ts).drop i := by simp [tms]
  have htt : tms (ts.take i) = (tms ts).take i := by simp [tms]
  rw [htd] at k85
  rw [htt] at k86
  generalize hW : pv x 0 (ts.drop i) = W at *
  have k41 := fun H (d : Nat) (hd : d ≤ 1125899906842624) => call41 H W d (by omega) (by omega)
  have k40 := fun H n (d : Nat) => call40 H n (W * d)
  have k45 := fun H n (d : Nat) (hb : (n + W * d).natAbs ≤ 1125899906842624) => call45 H (n + W * d) (by omega)
  have e45 : ∀ n (d : Nat), (n + W * d).natAbs ≤ 1125899906842624 → smV (n + W * d) = n + W * d := fun n d h => by unfold smV; rw [if_pos h]
  simp only [wd_P] at k86 k41 k40 k45
  have iT := hs.ext e1
  have lt := iT.len
  repeat' (first | refine w_seq ?_ | refine w_seqN ?_ | refine w_blkX ?_ | refine w_skip ?_ | refine w_ret ?_ | refine w_ops ?_ | refine w_opsD ?_ | refine d_one ?_ | refine d_nil ?_ | ((refine i_cond ?_); refine w_condF rfl ?_) | ((refine i_nil ?_); first | refine d_same ?_ | refine d_ord ?_ | refine d_ext (by assumption) ?_ | refine w_end3 rfl rfl rfl ?_ | refine w_end4 rfl rfl rfl rfl ?_ | refine w_end5 rfl rfl rfl rfl rfl ?_) | ((refine i_cons ?_); first | refine k_fldA rfl ?_ | refine k_ldC1 rfl c1 ?_ | (refine k_slF iT rfl rfl (by rw [tms_len]; exact hi) ?_; intro s1 is1) | (refine k_call rfl (k85 _ _ is1) ?_; rintro r h3 ⟨e3, rfl⟩; have c1_3 := c1.ext e3; have iT3 := iT.ext e3) | refine k_ldC1 rfl c1_3 ?_ | (refine k_slT iT3 rfl rfl (by rw [tms_len]; exact hi) ?_; intro s2 is2) | (refine k_call rfl (k86 _ _ is2) ?_; rintro r h4 ⟨e4, n, d, f, rfl⟩; obtain ⟨F, hd⟩ := fin n d f; have hb := Nat.le_trans (F.bound hX0) hB; have e45' := e45 n d hb) | (refine k_newst rfl ?_; intro h5 e5 c10) | refine k_ldC rfl c10 ?_ | (refine k_call rfl (k41 _ d hd) ?_; rintro r h6 ⟨e6, rfl⟩) | (refine k_call rfl (k40 _ n d) ?_; rintro r h7 ⟨e7, rfl⟩) | (refine k_call rfl (k45 _ n d hb) ?_; rintro r h8 ⟨e8, rfl⟩; rw [e45', decide_eq_true hb]) | refine k_mv rfl ?_ | refine k_notT rfl ?_ | refine k_ok rfl rfl ?_))
  exact ⟨.inr rfl, e1.trans (e3.trans (e4.trans (e5.trans (e6.trans (e7.trans e8))))), _, d, F, rfl⟩
end Go.Proofs.YtlnjddjobbhcaaaDoor

