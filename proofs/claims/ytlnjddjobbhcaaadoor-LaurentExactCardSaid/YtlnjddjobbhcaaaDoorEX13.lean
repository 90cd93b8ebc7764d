/- The reference's Divides, 19. -/
import Derived.Test.YtlnjddjobbhcaaaDoorEX12
import Derived.Test.YtlnjddjobbhcaaaDoorEX9
namespace Go.Proofs.YtlnjddjobbhcaaaDoor
open Go.Ab
set_option linter.unusedVariables false
set_option linter.unusedSimpArgs false
set_option maxRecDepth 20000
set_option maxHeartbeats 4000000
attribute [local irreducible] wOps wA wSeq wBlk wRound wRoundI wOpsD wOpsS

section
variable {FT : FuncId → Option AFun} {HK : FuncId → Option Hook} {E : Env} {h : Heap} {K : Env → Heap → Prop} {d : Option Nat} {r : List AOp} {x y xo : AO} {m n z : Int}
theorem k_tmod (hx : evS E x = some (.int .i64 m)) (hy : evS E y = some (.int .i64 n)) (hn : n ≠ 0) (hz : m.tmod n = z) (hw : wOps FT HK r (bindE d (some (.sc (.int .i64 z))) E) h K) : wOps FT HK (⟨d, .bin .rem x y, none⟩ :: r) E h K := by
  subst hz
  exact op_ok rfl rfl (by simp [step1, hx, hy, binS, isShift, binI, hn]) hw
theorem k_tdivE (hx : evS E x = some (.int .i64 m)) (hy : evS E y = some (.int .i64 n)) (hn : n ≠ 0) (hz : m.tdiv n = z) (hr : -9223372036854775808 ≤ z ∧ z ≤ 9223372036854775807) (hw : wOps FT HK r (bindE d (some (.sc (.int .i64 z))) E) h K) : wOps FT HK (⟨d, .bin .quo x y, none⟩ :: r) E h K := by
  subst hz
  exact k_tdiv hx hy ⟨hn, hr⟩ hw
theorem k_bslI {a b z0 z1 : SV} (hx : Go.Ab.ev E xo = some (.agg [a, b])) (hw : ∀ h1, Ext h h1 → IsD h1 (.slc h.length 0 1 (some 1)) [(a, b)] → wOps FT HK r (bindE d (some (.sc (.slc h.length 0 1 (some 1)))) E) h1 K) :
    wOps FT HK (⟨d, .bsl 2 [z0, z1] 1 [(0, xo)], none⟩ :: r) E h K :=
  k_bsl2 hx (hw _ ⟨_, rfl⟩ (.inr ⟨h.length, 0, some 1, .cells [a, b] true 2, rfl, by simp, rfl, fun h => by simp at h, fun _ => ⟨_, _, rfl, by simp [cut, prs, ez2]⟩⟩))
end
theorem putAll_len : ∀ L M : List Tm, (putAll L M).length ≤ M.length + L.length
  | [], M => Nat.le_refl _
  | t :: L, M => by
    have h1 := putAll_len L (putM t.1 t.2 M)
    have h2 := putM_len t.1 t.2 M
    show (putAll L (putM t.1 t.2 M)).length ≤ _
    simp only [List.length_cons]; omega
theorem colP_len (M : List Tm) : (colP M).ts.length ≤ M.length := by
  unfold colP
  split
  · exact List.length_filter_le _ _
  · simp [bigP]
theorem colP_cf {M : List Tm} (h : Asc M) : ∀ t ∈ (colP M).ts, t.2.natAbs ≤ cM := by
  rcases colP_spec h with e | ⟨-, k, -⟩
  · rw [e]; simp [bigP]
  · exact k.cf
theorem OwnD.late {h0 h : Heap} {s : SV} {ps : List P2} (ho : OwnD h0 h s ps) {id : Nat} (hl : h.length ≤ id) : NotAt s id := by
  rcases ho with ⟨rfl, -⟩ | ⟨id', cap, bl, rfl, h1, h2, -⟩
  · intro o n c e; cases e
  · intro o n c e; cases e
    have := (List.getElem?_eq_some_iff.1 h2).1
    omega
structure St19 (h0 h : Heap) (q2 q3 q4 q6 q7 : Nat) (sp sq so sr : SV) (o r : List Tm) : Prop where
  e : Ext h0 h
  c2 : Cel h q2 sp (.bool false)
  c3 : Cel h q3 sq (.bool false)
  c4 : Cel h q4 .nilS (.bool false)
  c6 : Cel h q6 so (.bool false)
  c7 : Cel h q7 sr (.bool false)
  o : OwnD h0 h so (tms o)
  d : IsD h sr (tms r)
  l : h0.length ≤ q2 ∧ q2 < q3 ∧ q3 < q4 ∧ q4 < q6 ∧ q6 < q7
theorem St19.ext {h0 h h' : Heap} {q2 q3 q4 q6 q7 : Nat} {sp sq so sr : SV} {o r : List Tm} (u : St19 h0 h q2 q3 q4 q6 q7 sp sq so sr o r) (e : Ext h h') : St19 h0 h' q2 q3 q4 q6 q7 sp sq so sr o r :=
  ⟨u.e.trans e, u.c2.ext e, u.c3.ext e, u.c4.ext e, u.c6.ext e, u.c7.ext e, OwnD.ext u.o e, u.d.ext e, u.l⟩
/-- Another cell was written. -/
theorem St19.wr {h0 h h' : Heap} {q2 q3 q4 q6 q7 q : Nat} {sp sq so sr x y : SV} {o r : List Tm} (u : St19 h0 h q2 q3 q4 q6 q7 sp sq so sr o r) (w : Wr h h' q x y) (hq : q7 < q) : St19 h0 h' q2 q3 q4 q6 q7 sp sq so sr o r :=
  have l := u.l
  ⟨w.ext u.e (by omega), w.keep u.c2 (by omega), w.keep u.c3 (by omega), w.keep u.c4 (by omega), w.keep u.c6 (by omega), w.keep u.c7 (by omega), OwnD.wrC u.o w, u.d.wrC w, l⟩
/-- The rest is a new one. -/
theorem St19.rest {h0 h h' : Heap} {q2 q3 q4 q6 q7 : Nat} {sp sq so sr s' : SV} {o r r' : List Tm} (u : St19 h0 h q2 q3 q4 q6 q7 sp sq so sr o r) (w : Wr h h' q7 s' (.bool false)) (d : IsD h s' (tms r')) : St19 h0 h' q2 q3 q4 q6 q7 sp sq so s' o r' :=
  have l := u.l
  ⟨w.ext u.e (by omega), w.keep u.c2 (by omega), w.keep u.c3 (by omega), w.keep u.c4 (by omega), w.keep u.c6 (by omega), w.cel, OwnD.wrC u.o w, d.wrC w, l⟩
/-- A term is appended. -/
theorem St19.push {h0 h h' h1 : Heap} {q2 q3 q4 q6 q7 : Nat} {sp sq so sr s' : SV} {o o' r : List Tm} (u : St19 h0 h q2 q3 q4 q6 q7 sp sq so sr o r) (f : Fram h h' so s') (x : Ext h0 h') (ho : OwnD h0 h' s' (tms o')) (hr : OwnD h0 h sr (tms r)) (ha : Apart so sr) (w : Wr h' h1 q6 s' (.bool false)) : St19 h0 h1 q2 q3 q4 q6 q7 sp sq s' sr o' r :=
  have l := u.l
  ⟨w.ext x (by omega), w.keep (u.c2.fram f (u.o.cel u.c2)) (by omega), w.keep (u.c3.fram f (u.o.cel u.c3)) (by omega), w.keep (u.c4.fram f (u.o.cel u.c4)) (by omega), w.cel, w.keep (u.c7.fram f (u.o.cel u.c7)) (by omega), OwnD.wrC ho w, (OwnD.away hr f ha).is.wrC w, l⟩
def msr (p r : List Tm) : Nat := match r with
  | [] => 0
  | a :: _ => (hi0 p - a.1).toNat + 1
def I19 (h0 : Heap) (q2 q3 q4 q6 q7 : Nat) (sp sq : SV) (p q : List Tm) (k : Nat) (E : Env) (h : Heap) : Prop := ∃ (o r : List Tm) (so sr : SV), k = msr p r ∧ DInv p q o r ∧ (p = [] → r = []) ∧ St19 h0 h q2 q3 q4 q6 q7 sp sq so sr o r ∧
  E.keep [2, 3, 4, 6, 7] = [(2, some (.sc (.ptr q2 0))), (3, some (.sc (.ptr q3 0))), (4, some (.sc (.ptr q4 0))), (6, some (.sc (.ptr q6 0))), (7, some (.sc (.ptr q7 0)))]
def R19 (h0 : Heap) (q2 q3 q4 q6 q7 : Nat) (sp sq : SV) (p q : List Tm) (ex : Ex) (E : Env) (h : Heap) : Prop :=
  (ex = .ex 0 ∧ ∃ o so sr a b c d, DInv p q o [] ∧ St19 h0 h q2 q3 q4 q6 q7 sp sq so sr o [] ∧ E = [(2, a), (3, b), (4, some (.sc (.ptr q4 0))), (6, some (.sc (.ptr q6 0))), (7, c), (15, d)]) ∨
  (ex = .rt ∧ Ext h0 h ∧ Cel h q4 .nilS (.bool false) ∧ (∀ s, ¬ Exq p q s) ∧ E = [(4, some (.sc (.ptr q4 0))), (5, some (.sc (.bool false)))])
theorem d5lt {h : Heap} {id : Nat} {a b : SV} (d : IsD h (.slc id 0 1 (some 1)) [(a, b)]) : id < h.length := by
  rcases d with ⟨e, -⟩ | ⟨id', off, cap, bl, e, h1, -⟩
  · cases e
  · injection e with e1
    subst e1
    exact (List.getElem?_eq_some_iff.1 h1).1
theorem rdW {h h1 : Heap} {q id off : Nat} {a b x : SV} (w : Wr h h1 q a b) (r : readN h id off 1 = some [x]) (hq : id ≠ q) : readN h1 id off 1 = some [x] := by
  rw [w.eq]
  unfold readN at r ⊢
  rw [List.getElem?_set_ne (Ne.symm hq)]
  exact r
theorem rdI {h : Heap} {id : Nat} {a b : SV} (d : IsD h (.slc id 0 1 (some 1)) [(a, b)]) : readN h id (0 + (0 : Int).toNat * 2) 2 = some [a, b] := by
  obtain ⟨id', off, cap, e, rd⟩ := IsD.at d (i := 0) (p := (a, b)) rfl
  injection e with e1 e2
  subst e1 e2
  exact rd
theorem lt_of_rd {h : Heap} {id off n : Nat} {l : List SV} (r : readN h id off n = some l) : id < h.length := by
  unfold readN at r
  split at r
  · rename_i hg; exact (List.getElem?_eq_some_iff.1 hg).1
  · cases r
theorem round19 (h0 : Heap) (q2 q3 q4 q6 q7 : Nat) (sp sq : SV) (p q' : List Tm) (b : Tm) (hp : IsD h0 sp (tms p)) (hq : IsD h0 sq (tms (b :: q'))) (f : Few p (b :: q')) (hql : (b :: q').length ≤ 16) (k : Nat) (E : Env) (h : Heap) (hI : I19 h0 q2 q3 q4 q6 q7 sp sq p (b :: q') k E h) :
    wA FT HKt b19L0 (E.keep [2, 3, 4, 6, 7]) h (wRoundI (I19 h0 q2 q3 q4 q6 q7 sp sq p (b :: q')) k (R19 h0 q2 q3 q4 q6 q7 sp sq p (b :: q'))) := by
  obtain ⟨o, r, so, sr, rfl, dv, pne, st, hE⟩ := hI
  rw [hE]
  have l := st.l
  have c7 := st.c7
  have lr := st.d.len
  rw [tms_len] at lr
  cases r with
  | nil =>
    have lr0 : lenS false sr = some ((0 : Nat) : Int) := lr
    repeat' (first | refine w_seq ?_ | refine w_seqN ?_ | refine w_seqX ?_ | refine w_exit ?_ | refine w_ops ?_ | ((refine i_cond ?_); refine w_condF rfl ?_) | ((refine i_nil ?_); refine w_end6 rfl rfl rfl rfl rfl rfl ?_) | ((refine i_cons ?_); first | refine k_fldA rfl ?_ | refine k_ldC0 rfl c7 ?_ | refine k_len rfl lr0 ?_ | refine k_gtrF rfl rfl (by omega) ?_))
    exact w_roundIX (.inl ⟨rfl, o, so, sr, _, _, _, _, dv, st, rfl⟩)
  | cons a r' =>
  have p0 : p ≠ [] := fun e => by have := pne e; cases this
  have kq : Can (b :: q') := f.kq.can
  have bnz := kq.nz b (.head _)
  have bb := f.q1 b (.head _)
  have ab : a.2.natAbs ≤ cM ∧ a.1.natAbs ≤ eM := ⟨dv.kr.cf a (.head _), dv.kr.ex a (.head _)⟩
  simp only [cM, eM] at ab
  have htd : (Int.tdiv a.2 b.2).natAbs ≤ 1125899906842624 := by rw [Int.natAbs_tdiv]; exact Nat.le_trans (Nat.div_le_self _ _) ab.1
  obtain ⟨idr, offr, capr, er, rdr⟩ := IsD.at st.d (i := 0) (p := tmP a) rfl
  obtain ⟨idq, offq, capq, eq0, rdq0⟩ := IsD.at hq (i := 0) (p := tmP b) rfl
  have rdq := readN_ext st.e rdq0
  rw [tms_len] at er eq0
  have ltr : idr < h.length := by
    unfold readN at rdr
    split at rdr
    · rename_i hg; exact (List.getElem?_eq_some_iff.1 hg).1
    · cases rdr
  have ltq : idq < h.length := by
    unfold readN at rdq
    split at rdq
    · rename_i hg; exact (List.getElem?_eq_some_iff.1 hg).1
    · cases rdq
  have c3 := st.c3
  subst er
  subst eq0
  have lr' : lenS false (.slc idr offr (a :: r').length capr) = some ((r'.length + 1 : Nat) : Int) := rfl
  have hS : ∀ id ∈ [q7, idr, q3, idq], id < h.length := fun id hid => by
    simp only [List.mem_cons, List.not_mem_nil, or_false] at hid
    rcases hid with rfl | rfl | rfl | rfl
    · exact c7.lt
    · exact ltr
    · exact c3.lt
    · exact ltq
  have nol : ∀ {S : List Nat} {ord : Bool} {k : AK} (E : Env) (id : Nat), ldX E ord k = some id → ldX E ord k = none → id ∈ S := fun E id h1 h2 => by rw [h2] at h1; cases h1
  repeat' (first | refine w_seq ?_ | refine w_seqN ?_ | refine w_blk ?_ | refine w_skip ?_ | refine w_ops ?_ | ((refine i_cond ?_); refine w_condT rfl ?_) | ((refine i_nil ?_); refine w_end6 rfl rfl rfl rfl rfl rfl ?_) | ((refine i_cons ?_); first | refine k_fldA rfl ?_ | refine k_ldC0 rfl c7 ?_ | refine k_len rfl lr' ?_ | refine k_gtrT rfl rfl (by omega) ?_))
  refine w_opsS [q7, idr, q3, idq] ?_
  refine s_one (fun id h => nol _ id h rfl) (k_fldA rfl (s_same ?_))
  refine s_one (fun id h => by cases h; simp) (k_ldC0 rfl c7 (s_same ?_))
  refine s_one (fun id h => nol _ id h rfl) (k_idxA (esz := 2) rfl rfl (by simp only [List.length_cons]; omega) (s_same ?_))
  refine s_one (fun id h => by cases h; simp) (k_ldD rfl rdr (s_same ?_))
  refine s_one (fun id h => nol _ id h rfl) (k_fldA rfl (s_same ?_))
  refine s_one (fun id h => by cases h; simp) (k_ldC0 rfl c3 (s_same ?_))
  refine s_one (fun id h => nol _ id h rfl) (k_idxA (esz := 2) rfl rfl (by simp only [List.length_cons]; omega) (s_same ?_))
  refine s_one (fun id h => by cases h; simp) (k_ldD rfl rdq (s_same ?_))
  refine s_one (fun id h => nol _ id h rfl) (k_newC ?_)
  intro h1 e1 n8
  refine s_grow e1 hS ?_
  refine s_one (fun id h => nol _ id h rfl) (k_newC ?_)
  intro h2 e2 n9
  have m1 := e1.len
  have m2 := e2.len
  have m8 := n8.lt
  have m7 := c7.lt
  refine s_grow e2 (fun id hid => by have := hS id hid; omega) ?_
  refine s_one (fun id h => nol _ id h rfl) (k_stC rfl rfl (n8.ext e2) ?_)
  intro h3 w3
  refine s_ord (fun id hid => by have := hS id hid; rw [w3.eq, List.getElem?_set_ne (by omega)]) ?_ (fun id hid => by cases hid)
  refine s_one (fun id h => nol _ id h rfl) (k_stC rfl rfl (w3.keep n9 (by omega)) ?_)
  intro h4 w4
  refine s_free rfl ?_
  refine s_nil ?_
  have st4 := ((((st.ext e1).ext e2).wr w3 (by omega)).wr w4 (by omega))
  have c84 : Cel h4 h.length (tmP a).1 (tmP a).2 := w4.keep w3.cel (by omega)
  have c94 : Cel h4 h1.length (tmP b).1 (tmP b).2 := w4.cel
  have m9 := c94.lt
  have e40 := st4.e
  by_cases hz : Int.tmod a.2 b.2 = 0
  case neg =>
    obtain ⟨z, hz'⟩ : ∃ z, Int.tmod a.2 b.2 = z := ⟨_, rfl⟩
    rw [hz'] at hz
    have c44 := st4.c4
    repeat' (first | refine w_seq ?_ | refine w_seqN ?_ | refine w_seqR ?_ | refine w_blkR ?_ | refine w_ret ?_ | refine w_ops ?_ | ((refine i_cond ?_); refine w_condT rfl ?_) | ((refine i_nil ?_); first | refine w_end2 rfl rfl ?_ | refine w_end7 rfl rfl rfl rfl rfl rfl rfl ?_ | refine w_end8 rfl rfl rfl rfl rfl rfl rfl rfl ?_) | ((refine i_cons ?_); first | refine k_fldA rfl ?_ | refine k_ldC1 rfl c84 ?_ | refine k_ldC1 rfl c94 ?_ | refine k_tmod rfl rfl bnz hz' ?_ | refine k_bld rfl rfl ?_ | (refine k_stC rfl rfl c44 ?_; intro h5 w5) | refine k_mv rfl ?_ | refine k_neqT rfl rfl (by omega) ?_))
    exact w_roundIR (.inr ⟨rfl, w5.ext e40 (by omega), w5.cel, fun s hs => hz (hz'.symm.trans (dv.fine f hs).1), rfl⟩)
  obtain ⟨tp, htp⟩ : ∃ t, p[p.length - 1]? = some t := ⟨_, List.getElem?_eq_getElem (by have := List.length_pos_iff.2 p0; omega)⟩
  obtain ⟨tq, htq⟩ : ∃ t, (b :: q')[(b :: q').length - 1]? = some t := ⟨_, List.getElem?_eq_getElem (by simp)⟩
  obtain ⟨idp, offp, capp, ep, rp0⟩ := IsD.at hp (i := p.length - 1) (p := tmP tp) (by simp [htp])
  obtain ⟨idq2, offq2, capq2, eq2, rq0⟩ := IsD.at hq (i := (b :: q').length - 1) (p := tmP tq) (by rw [List.getElem?_map, htq]; rfl)
  rw [tms_len] at ep eq2
  injection eq2 with x1 x2 x3 x4
  subst x1 x2 x4 ep
  have lpp : 0 < p.length := List.length_pos_iff.2 p0
  have lpp2 : p.length ≤ 10 := can_len (lo := lo0 p) (show Can p from f.kp.can) fun t ht => ⟨lo0_le f.kp.can t ht, by have := hi0_ge (show Can p from f.kp.can) t ht; have := f.wp p0; omega⟩
  have ep1 : ((p.length : Int) - 1).toNat = p.length - 1 := by omega
  have eq1 : ((((b :: q').length : Nat) : Int) - 1).toNat = (b :: q').length - 1 := by omega
  have hip := hi0_last htp p0
  have hiq := hi0_last htq (by simp)
  have btp := (f.p1 tp (List.mem_of_getElem? htp)).2
  have btq := (f.q1 tq (List.mem_of_getElem? htq)).2
  have k49 := fun H s (d : IsD H s (tms [stepT a b])) (dq : IsD H (.slc idq offq (b :: q').length capq) (tms (b :: q'))) => call49 H s (.slc idq offq (b :: q').length capq) [stepT a b] (b :: q') d dq (fun t ht => by
    rw [List.mem_singleton.1 ht]
    exact ⟨htd, by show (a.1 - b.1).natAbs ≤ 1000000000; omega⟩) (fun t ht => ⟨f.kq.cf t ht, by have := (f.q1 t ht).2; omega⟩) (by simp) (by simpa using hql)
  generalize hC : colP (mulAll [stepT a b] (b :: q') []) = C at *
  have cC : ∀ t ∈ C.ts, t.2.natAbs ≤ cM := by rw [← hC]; exact colP_cf (mulAll_ascn _ _)
  have lC : C.ts.length ≤ 16 := by
    rw [← hC]
    refine Nat.le_trans (colP_len _) ?_
    show (putAll ((b :: q').map (mt (stepT a b))) []).length ≤ 16
    exact Nat.le_trans (putAll_len _ _) (by simpa using hql)
  have k48 := fun H s (d : IsD H s (tms C.ts)) => call48 H s C d cC (by omega)
  have lr1 : (a :: r').length ≤ 1000 := by
    have w := f.wp p0
    exact Nat.le_trans (can_len (lo := lo0 p) (n := 10) dv.kr.can fun t ht => ⟨dv.lo t ht, by have := dv.hi t ht; omega⟩) (by omega)
  have k47 := fun H s t (d : IsD H s (tms (a :: r'))) (d2 : IsD H t (tms (ngP C).ts)) => call47o H s t ⟨false, a :: r'⟩ (ngP C) d d2 dv.kr.cf (fun t ht => by
    obtain ⟨u, hu, rfl⟩ := List.mem_map.1 (show t ∈ C.ts.map ngT from ht)
    have := cC u hu
    show (-u.2).natAbs ≤ cM
    omega) lr1 (by show (C.ts.map ngT).length ≤ 1000; rw [List.length_map]; omega)
  have eR : addR ⟨false, a :: r'⟩ (ngP C) = stepR (a :: r') (stepT a b) (b :: q') := by unfold stepR; rw [hC]
  rw [eR] at k47
  obtain ⟨td, htd'⟩ : ∃ z, Int.tdiv a.2 b.2 = z := ⟨_, rfl⟩
  have eT : stepT a b = (a.1 - b.1, td) := by unfold stepT; rw [htd']
  have htd2 : td.natAbs ≤ 1125899906842624 := by rw [← htd']; exact htd
  have hz' := hz
  have u11 : tp.1 - tq.1 = hi0 p - hi0 (b :: q') := by rw [hip, hiq]
  have rp4 := (rd1 (readN_ext e40 rp0)).1
  have rq4 := (rd1 (readN_ext e40 rq0)).1
  rw [← ep1] at rp4
  rw [← eq1] at rq4
  have ltp4 := lt_of_rd rp4
  have ltq4 := lt_of_rd rq4
  have lq' : lenS false (.slc idq offq (b :: q').length capq) = some (((b :: q').length : Nat) : Int) := rfl
  have lp' : lenS false (.slc idp offp p.length capp) = some ((p.length : Nat) : Int) := rfl
  have lqq : 0 < (b :: q').length := by simp
  generalize hQn : (b :: q').length = nq at *
  by_cases hD : a.1 - b.1 ≤ hi0 p - hi0 (b :: q')
  case neg =>
    rw [← u11] at hD
    repeat' (first | refine w_seq ?_ | refine w_seqN ?_ | refine w_seqR ?_ | refine w_blkR ?_ | refine w_skip ?_ | refine w_ret ?_ | refine w_ops ?_ | refine w_opsD ?_ | refine d_one ?_ | refine d_nil ?_ | ((refine i_cond ?_); first | refine w_condT rfl ?_ | refine w_condF rfl ?_) | ((refine i_nil ?_); first | refine d_same ?_ | refine d_ord ?_ | refine d_ext (by assumption) ?_ | refine w_end2 rfl rfl ?_ | refine w_end7 rfl rfl rfl rfl rfl rfl rfl ?_ | refine w_end8 rfl rfl rfl rfl rfl rfl rfl rfl ?_) | ((refine i_cons ?_); first | refine k_fldA rfl ?_ | refine k_ldC0 rfl c84 ?_ | refine k_ldC1 rfl c84 ?_ | refine k_ldC0 rfl c94 ?_ | refine k_ldC1 rfl c94 ?_ | refine k_tmod rfl rfl bnz hz' ?_ | refine k_tdivE rfl rfl bnz htd' (by omega) ?_ | refine k_bld rfl rfl ?_ | (refine k_bslI rfl ?_; intro h5 e5 d5) | (refine k_newC ?_; intro h6 e6 n10; have m5 := e5.len; have m4 : h4.length < h5.length := d5lt d5) | (refine k_stC rfl rfl n10 ?_; intro h7 w7; have st7 := (((st4.ext e5).ext e6).wr w7 (by omega)); have c87 := w7.keep ((c84.ext e5).ext e6) (by omega); have c97 := w7.keep ((c94.ext e5).ext e6) (by omega); have c107 := w7.cel; have d107 := (d5.ext e6).wrC w7; have rp7 := rdW w7 (readN_ext e6 (readN_ext e5 rp4)) (by omega); have rq7 := rdW w7 (readN_ext e6 (readN_ext e5 rq4)) (by omega); have c27 := st7.c2; have c37 := st7.c3; have c47 := st7.c4; have c77 := st7.c7) | refine k_ldC0 rfl c87 ?_ | refine k_ldC0 rfl c97 ?_ | refine k_ldC0 rfl c27 ?_ | refine k_ldC0 rfl c37 ?_ | refine k_len rfl lp' ?_ | refine k_len rfl lq' ?_ | refine k_idxA (esz := 2) rfl rfl (by omega) ?_ | refine k_ld rfl rp7 ?_ | refine k_ld rfl rq7 ?_ | (refine k_stC rfl rfl c47 ?_; intro h8 w8) | refine k_mv rfl ?_ | refine k_sub rfl rfl (by omega) ?_ | refine k_gtrT rfl rfl (by omega) ?_ | refine k_neqF rfl rfl (by omega) ?_))
    exact w_roundIR (.inr ⟨rfl, w8.ext st7.e (by omega), w8.cel, fun s hs => hD (by rw [u11]; exact (dv.fine f hs).2.1), rfl⟩)
  have hD' := hD
  rw [← u11] at hD'
  have k47' : ∀ bg, (stepR (a :: r') (stepT a b) (b :: q')).big = bg → ∀ H s t, IsD H s (tms (a :: r')) → IsD H t (tms (ngP C).ts) → ∃ r h', Cal FT HKt 47 [.agg [s, .bool false], .agg [t, .bool C.big]] H r h' ∧ Ext H h' ∧ ∃ s', r = .agg [s', .bool bg] ∧ OwnD H h' s' (tms (stepR (a :: r') (stepT a b) (b :: q')).ts) := fun bg e H s t d d2 => by
    obtain ⟨r, h', a1, a2, s', a3, a4⟩ := k47 H s t d d2
    exact ⟨r, h', a1, a2, s', by rw [← e]; exact a3, a4⟩
  cases hb : (stepR (a :: r') (stepT a b) (b :: q')).big with
  | true =>
    replace k47' := k47' true hb
    repeat' (first | refine w_seq ?_ | refine w_seqN ?_ | refine w_seqR ?_ | refine w_blkR ?_ | refine w_skip ?_ | refine w_ret ?_ | refine w_ops ?_ | refine w_opsD ?_ | refine d_one ?_ | refine d_nil ?_ | ((refine i_cond ?_); first | refine w_condT rfl ?_ | refine w_condF rfl ?_) | ((refine i_nil ?_); first | refine d_same ?_ | refine d_ord ?_ | refine d_ext (by assumption) ?_ | refine w_end2 rfl rfl ?_ | refine w_end6 rfl rfl rfl rfl rfl rfl ?_ | refine w_end7 rfl rfl rfl rfl rfl rfl rfl ?_ | refine w_end8 rfl rfl rfl rfl rfl rfl rfl rfl ?_) | ((refine i_cons ?_); first | refine k_fldA rfl ?_ | refine k_ldC0 rfl c84 ?_ | refine k_ldC1 rfl c84 ?_ | refine k_ldC0 rfl c94 ?_ | refine k_ldC1 rfl c94 ?_ | refine k_tmod rfl rfl bnz hz' ?_ | refine k_tdivE rfl rfl bnz htd' (by omega) ?_ | refine k_bld rfl rfl ?_ | (refine k_bslI rfl ?_; intro h5 e5 d5) | (refine k_newC ?_; intro h6 e6 n10; have m5 := e5.len; have m4 : h4.length < h5.length := d5lt d5) | (refine k_stC rfl rfl n10 ?_; intro h7 w7; have st7 := (((st4.ext e5).ext e6).wr w7 (by omega)); have c87 := w7.keep ((c84.ext e5).ext e6) (by omega); have c97 := w7.keep ((c94.ext e5).ext e6) (by omega); have c107 := w7.cel; have d107 := (d5.ext e6).wrC w7; have rp7 := rdW w7 (readN_ext e6 (readN_ext e5 rp4)) (by omega); have rq7 := rdW w7 (readN_ext e6 (readN_ext e5 rq4)) (by omega); have c27 := st7.c2; have c37 := st7.c3; have c47 := st7.c4; have c77 := st7.c7) | refine k_ldC0 rfl c87 ?_ | refine k_ldC0 rfl c97 ?_ | refine k_ldC0 rfl c27 ?_ | refine k_ldC0 rfl c37 ?_ | refine k_len rfl lp' ?_ | refine k_len rfl lq' ?_ | refine k_idxA (esz := 2) rfl rfl (by omega) ?_ | refine k_ld rfl rp7 ?_ | refine k_ld rfl rq7 ?_ | refine k_ldC rfl c77 ?_ | refine k_ldC rfl c107 ?_ | refine k_ldC rfl c37 ?_ | (refine k_call rfl (k49 h7 _ (by rw [eT]; exact d107) (hq.ext st7.e)) ?_; rintro r h8 ⟨e8, s8, rfl, d8⟩) | (refine k_call rfl (k48 h8 _ d8) ?_; rintro r h9 ⟨e9, s9, rfl, d9⟩; have st9 := (st7.ext e8).ext e9; have c109 := (c107.ext e8).ext e9) | (refine k_call rfl (k47' h9 _ _ st9.d d9) ?_; rintro r hA ⟨eA, s', rfl, oA⟩; have stA := st9.ext eA; have c7A := stA.c7; have c10A := c109.ext eA) | (refine k_stC rfl rfl c7A ?_; intro hB wB; have c7B := wB.cel; have c4B := wB.keep stA.c4 (by omega)) | refine k_ldC1 rfl c7B ?_ | (refine k_stC rfl rfl c4B ?_; intro hC wC) | refine k_mv rfl ?_ | refine k_sub rfl rfl (by omega) ?_ | refine k_gtrF rfl rfl (by omega) ?_ | refine k_neqF rfl rfl (by omega) ?_))
    exact w_roundIR (.inr ⟨rfl, wC.ext (wB.ext stA.e (by omega)) (by omega), wC.cel, fun s hs => (by have := (dv.fine f hs).2.2; rw [hb] at this; cases this), rfl⟩)
  | false =>
    replace k47' := k47' false hb
    obtain ⟨dvn, up⟩ := dv.step f.kp.can kq hz hD hb
    generalize hRt : (stepR (a :: r') (stepT a b) (b :: q')).ts = Rt at *
    have lo : o.length ≤ 10 := can_len (lo := lo0 p - lo0 (b :: q')) dv.co fun t ht => by
      have h1 := dv.ob t ht
      have h2 := f.wp p0
      have h3 := hi0_ge kq b (.head _)
      have h4 : lo0 (b :: q') = b.1 := rfl
      omega
    repeat' (first | refine w_seq ?_ | refine w_seqN ?_ | refine w_blkN ?_ | refine w_skip ?_ | refine w_ops ?_ | refine w_opsD ?_ | refine d_one ?_ | refine d_nil ?_ | ((refine i_cond ?_); refine w_condF rfl ?_) | ((refine i_nil ?_); first | refine d_same ?_ | refine d_ord ?_ | refine d_ext (by assumption) ?_ | refine w_end5 rfl rfl rfl rfl rfl ?_ | refine w_end6 rfl rfl rfl rfl rfl rfl ?_ | refine w_end7 rfl rfl rfl rfl rfl rfl rfl ?_ | refine w_end8 rfl rfl rfl rfl rfl rfl rfl rfl ?_) | ((refine i_cons ?_); first | (have z := rB; refine k_bslD rfl ?_; intro hC eC srcC; have stC := stB.ext eC; have oC := OwnD.ext oB eC) | refine k_fldA rfl ?_ | refine k_ldC0 rfl c84 ?_ | refine k_ldC1 rfl c84 ?_ | refine k_ldC0 rfl c94 ?_ | refine k_ldC1 rfl c94 ?_ | refine k_tmod rfl rfl bnz hz' ?_ | refine k_tdivE rfl rfl bnz htd' (by omega) ?_ | refine k_bld rfl rfl ?_ | (refine k_bslI rfl ?_; intro h5 e5 d5) | (refine k_newC ?_; intro h6 e6 n10; have m5 := e5.len; have m4 : h4.length < h5.length := d5lt d5) | (refine k_stC rfl rfl n10 ?_; intro h7 w7; have st7 := (((st4.ext e5).ext e6).wr w7 (by omega)); have c87 := w7.keep ((c84.ext e5).ext e6) (by omega); have c97 := w7.keep ((c94.ext e5).ext e6) (by omega); have c107 := w7.cel; have d107 := (d5.ext e6).wrC w7; have rp7 := rdW w7 (readN_ext e6 (readN_ext e5 rp4)) (by omega); have rq7 := rdW w7 (readN_ext e6 (readN_ext e5 rq4)) (by omega); have c27 := st7.c2; have c37 := st7.c3; have c47 := st7.c4; have c77 := st7.c7) | refine k_ldC0 rfl c87 ?_ | refine k_ldC0 rfl c97 ?_ | refine k_ldC0 rfl c27 ?_ | refine k_ldC0 rfl c37 ?_ | refine k_len rfl lp' ?_ | refine k_len rfl lq' ?_ | refine k_idxA (esz := 2) rfl rfl (by omega) ?_ | refine k_ld rfl rp7 ?_ | refine k_ld rfl rq7 ?_ | refine k_ldC rfl c77 ?_ | refine k_ldC rfl c107 ?_ | refine k_ldC rfl c37 ?_ | (refine k_call rfl (k49 h7 _ (by rw [eT]; exact d107) (hq.ext st7.e)) ?_; rintro r h8 ⟨e8, s8, rfl, d8⟩) | (refine k_call rfl (k48 h8 _ d8) ?_; rintro r h9 ⟨e9, s9, rfl, d9⟩; have st9 := (st7.ext e8).ext e9; have c109 := (c107.ext e8).ext e9) | (refine k_call rfl (k47' h9 _ _ st9.d d9) ?_; rintro r hA ⟨eA, s', rfl, oA⟩; have stA := st9.ext eA; have c7A := stA.c7; have c10A := c109.ext eA) | (refine k_stC rfl rfl c7A ?_; intro hB wB; have stB := stA.rest wB oA.is; have c7B := wB.cel; have c6B := stB.c6; have c10B := wB.keep c10A (by omega); have dB := (((d107.ext e8).ext e9).ext eA).wrC wB; have rB := rdI dB; have oB := OwnD.wrC oA wB) | refine k_ldC1 rfl c7B ?_ | refine k_ldC0 rfl c6B ?_ | refine k_ldC0 rfl c10B ?_ | refine k_ldD rfl rB ?_ | (refine k_appD1 stC.e stC.o rfl rfl srcC (by rw [tms_len]; simp only [bigN]; omega) ?_; intro s'' hQ oD eD fD lD; have c6D := stC.c6.fram fD (stC.o.cel stC.c6)) | (refine k_stC0 rfl rfl c6D ?_; intro hE wE) | refine k_sub rfl rfl (by omega) ?_ | refine k_gtrF rfl rfl (by omega) ?_ | refine k_neqF rfl rfl (by omega) ?_))
    have oD' : OwnD h0 hQ s'' (tms (o ++ [stepT a b])) := by
      rw [eT]
      simpa [tms, tmP] using oD
    have fin := stC.push fD eD oD' (oC.weaken st9.e.len) (fun id => by
      by_cases hid : id < h9.length
      · exact .inr (oA.not hid)
      · exact .inl (OwnD.late st9.o (by omega))) wE
    refine w_roundIN (j := msr p Rt) ?_ ⟨o ++ [stepT a b], Rt, s'', s', rfl, dvn, fun e => absurd e p0, fin, rfl⟩
    unfold msr
    cases Rt with
    | nil => exact Nat.succ_pos _
    | cons a2 r2 =>
      have h1 := up a2 (.head _)
      have h2 := dvn.hi a2 (.head _)
      have h3 := dv.hi a (.head _)
      simp only
      omega
/-- Divides. -/
theorem call19 (h0 : Heap) (sp sq : SV) (p q : List Tm) (hp : IsD h0 sp (tms p)) (hq : IsD h0 sq (tms q)) (f : Few p q) (hql : q.length ≤ 16) :
    ∃ r h', Cal FT HKt 19 [.agg [sp, .bool false], .agg [sq, .bool false]] h0 r h' ∧ Ext h0 h' ∧ ((∃ o s, r = .tup [.agg [s, .bool false], .sc (.bool true)] ∧ IsD h' s (tms o) ∧ Exq p q o ∧ Pok ⟨false, o⟩ ∧ ∀ t ∈ o, t.1.natAbs ≤ 300) ∨ (r = .tup [.agg [.nilS, .bool false], .sc (.bool false)] ∧ ∀ s, ¬ Exq p q s)) := by
  refine Cal.of (F := a19) rfl rfl rfl ?_
  obtain ⟨b, q', rfl⟩ : ∃ b q', q = b :: q' := by
    cases q with
    | nil => exact absurd rfl f.q0
    | cons b q' => exact ⟨b, q', rfl⟩
  repeat' (first | refine w_seq ?_ | refine w_seqN ?_ | refine w_blk ?_ | refine w_ops ?_ | ((refine i_nil ?_); first | refine w_end3 rfl rfl rfl ?_ | refine w_end4 rfl rfl rfl rfl ?_ | refine w_end5 rfl rfl rfl rfl rfl ?_) | ((refine i_cons ?_); first | (have z := e4; refine k_newst rfl ?_; intro h5 e5 n5) | (have z := e3; refine k_newC ?_; intro h4 e4 n4; have c24 := (n1.ext e2).ext (e3.trans e4)) | (have z := e2; refine k_newC ?_; intro h3 e3 n3) | (have z := e1; refine k_boxC rfl ?_; intro h2 e2 n2) | (refine k_boxC rfl ?_; intro h1 e1 n1) | refine k_ldC rfl c24 ?_ | refine k_mv rfl ?_))
  have m1 := n1.lt
  have m2 := n2.lt
  have m3 := n3.lt
  have m4 := n4.lt
  have x := e1.trans (e2.trans (e3.trans (e4.trans e5)))
  refine w_loopI (I19 h0 h0.length h1.length h2.length h3.length h4.length sp sq p (b :: q')) (msr p p) (R19 h0 h0.length h1.length h2.length h3.length h4.length sp sq p (b :: q')) ⟨[], p, .nilS, sp, rfl, DInv.init f.kp, fun h => h, ⟨x, c24.ext e5, (n2.ext e3).ext (e4.trans e5), (n3.ext e4).ext e5, n4.ext e5, n5, .inl ⟨rfl, rfl⟩, hp.ext x, ⟨Nat.le_refl _, m1, m2, m3, m4⟩⟩, rfl⟩ (round19 h0 h0.length h1.length h2.length h3.length h4.length sp sq p q' b hp hq f hql) ?_
  rintro ex E' h6 (⟨rfl, o, so, sr, _, _, _, _, dv, st, rfl⟩ | ⟨rfl, x6, c4, hno, rfl⟩)
  · have c4 := st.c4
    have c6 := st.c6
    repeat' (first | refine w_seq ?_ | refine w_seqN ?_ | refine w_blkX ?_ | refine w_ret ?_ | refine w_ops ?_ | ((refine i_nil ?_); refine w_end2 rfl rfl ?_) | ((refine i_cons ?_); first | refine k_ldC rfl c6 ?_ | (refine k_stC rfl rfl c4 ?_; intro h7 w7) | refine k_mv rfl ?_))
    obtain ⟨d1, d2, d3⟩ := dv.done f
    exact ⟨.inr rfl, oK_cellt rfl w7.cel.read rfl ⟨w7.ext st.e (by omega), .inl ⟨o, so, rfl, (OwnD.wrC st.o w7).is, d1, d2, d3⟩⟩⟩
  · repeat' (first | refine w_seqR ?_ | refine w_blkR ?_)
    exact ⟨.inr rfl, oK_cellt rfl c4.read rfl ⟨x6, .inr ⟨rfl, hno⟩⟩⟩
end Go.Proofs.YtlnjddjobbhcaaaDoor
