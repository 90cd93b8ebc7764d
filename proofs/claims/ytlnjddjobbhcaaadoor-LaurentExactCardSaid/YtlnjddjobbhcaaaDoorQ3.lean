/- Division: the rest is laid out, and what is left is looked at. -/
import Derived.Test.YtlnjddjobbhcaaaDoorQ1
namespace Go.Proofs.YtlnjddjobbhcaaaDoor
open Go.Ab
set_option linter.unusedVariables false
set_option linter.unusedSimpArgs false
set_option maxRecDepth 20000
set_option maxHeartbeats 4000000
attribute [local irreducible] wOps wA wSeq wBlk wRound wRoundI wOpsD wOpsS

structure Sa (h0 h : Heap) (q2 q3 q4 : Nat) (sp sq S : SV) (vs : List Int) : Prop where
  e : Ext h0 h
  c2 : Cel h q2 (.bool false) sp
  c3 : Cel h q3 (.bool false) sq
  c4 : Cel h q4 (.bool false) .nilS
  o : OwnD h0 h S (vs.map wdP)
theorem Sa.ext {h0 h h' : Heap} {q2 q3 q4 : Nat} {sp sq S : SV} {vs : List Int} (st : Sa h0 h q2 q3 q4 sp sq S vs) (he : Ext h h') : Sa h0 h' q2 q3 q4 sp sq S vs :=
  ⟨st.e.trans he, st.c2.ext he, st.c3.ext he, st.c4.ext he, st.o.ext he⟩
theorem Sa.put {h0 h : Heap} {q2 q3 q4 : Nat} {sp sq S : SV} {vs : List Int} (st : Sa h0 h q2 q3 q4 sp sq S vs) {k : Nat} (hk : k < vs.length) (v : Int) :
    ∃ id cap h', S = .slc id 0 vs.length cap ∧ writeN h id (0 + k * 2) [(wdP v).1, (wdP v).2] = some h' ∧ Sa h0 h' q2 q3 q4 sp sq S (vs.set k v) ∧ Fram h h' S S ∧ h'.length = h.length := by
  obtain ⟨id, cap, h', e1, w1, o1, x1, f1, l1⟩ := OwnD.wr st.e st.o (i := k) (by simp; exact hk) (wdP v).1 (wdP v).2
  rw [List.length_map] at e1
  refine ⟨id, cap, h', e1, w1, ⟨x1, st.c2.fram f1 (st.o.cel st.c2), st.c3.fram f1 (st.o.cel st.c3), st.c4.fram f1 (st.o.cel st.c4), ?_⟩, f1, l1⟩
  rw [List.map_set]; exact o1
theorem Sa.rd {h0 h : Heap} {q2 q3 q4 : Nat} {sp sq S : SV} {vs : List Int} (st : Sa h0 h q2 q3 q4 sp sq S vs) {k : Nat} {v : Int} (hv : vs[k]? = some v) :
    ∃ id cap, S = .slc id 0 vs.length cap ∧ readN h id (0 + k * 2) 2 = some [(wdP v).1, (wdP v).2] := by
  obtain ⟨id, cap, e1, r1⟩ := st.o.rd (i := k) (p := wdP v) (by simp [hv])
  rw [List.length_map] at e1
  exact ⟨id, cap, e1, r1⟩
theorem smL_get {f : Int → Int} {lo : Int} {n k : Nat} (hk : k < n) : (smL f lo n)[k]? = some (f (lo + k)) := by simp [smL, hk]
theorem cf_new {p : List Tm} (hc : Can p) {i : Nat} {t : Tm} (ht : p[i]? = some t) : cf (p.take i) t.1 = 0 := by
  refine cf_none fun u hu e => ?_
  obtain ⟨k, hk, rfl⟩ := List.getElem_of_mem hu
  rw [List.length_take] at hk
  obtain ⟨hi, rfl⟩ := List.getElem?_eq_some_iff.1 ht
  have := (List.pairwise_iff_getElem.1 hc.asc) k i (by omega) hi (by omega)
  simp at e
  omega
def I13a (h0 : Heap) (q2 q3 q4 : Nat) (sp sq S : SV) (p : List Tm) (N : Nat) (st : Int) (E : Env) (h : Heap) : Prop := ∃ i : Nat, i ≤ p.length ∧ Sa h0 h q2 q3 q4 sp sq S (smL (fun e => cf (p.take i) e) (lo0 p) N) ∧
  E.keep [2, 3, 4, 6, 7, 75, 76, 77] = [(2, some (.sc (.ptr q2 0))), (3, some (.sc (.ptr q3 0))), (4, some (.sc (.ptr q4 0))), (6, some (.sc (.int .i64 st))), (7, some (.sc S)), (75, some (.sc sp)), (76, some (.sc (.int .i64 (p.length : Nat)))), (77, some (.sc (.int .i64 (i : Nat))))]
def R13a (h0 : Heap) (q2 q3 q4 : Nat) (sp sq S : SV) (p : List Tm) (N : Nat) (st : Int) (ex : Ex) (E : Env) (h : Heap) : Prop :=
  ex = .ex 1 ∧ ∃ a b c d, Sa h0 h q2 q3 q4 sp sq S (smL (fun e => cf p e) (lo0 p) N) ∧
  E = [(2, some (.sc (.ptr q2 0))), (3, some (.sc (.ptr q3 0))), (4, some (.sc (.ptr q4 0))), (6, some (.sc (.int .i64 st))), (7, some (.sc S)), (75, a), (76, b), (77, c), (78, d)]
theorem round13a (h0 : Heap) (q2 q3 q4 : Nat) (sp sq S : SV) (p : List Tm) (N : Nat) (st : Int) (hp : IsD h0 sp (tms p)) (hc : Can p) (fp : ∀ t ∈ p, t.2.natAbs ≤ cM ∧ t.1.natAbs ≤ eM) (pl : p.length ≤ 2097153) (hN : ∀ t ∈ p, t.1 - lo0 p < N) (hlo : (lo0 p).natAbs ≤ eM) (E : Env) (h : Heap) (hI : I13a h0 q2 q3 q4 sp sq S p N st E h) :
    wA FT HKt b13L0 (E.keep [2, 3, 4, 6, 7, 75, 76, 77]) h (wRound (I13a h0 q2 q3 q4 sp sq S p N st) (cK [2, 3, 4, 6, 7, 75, 76, 77] p.length 77) (cK [2, 3, 4, 6, 7, 75, 76, 77] p.length 77 E h) (R13a h0 q2 q3 q4 sp sq S p N st)) := by
  obtain ⟨i, hi, st, hE⟩ := hI
  have hm : cK [2, 3, 4, 6, 7, 75, 76, 77] p.length 77 E h = p.length - i := by unfold cK; rw [hE]; rfl
  rw [hm, hE]
  by_cases hlt : i < p.length
  · obtain ⟨t, ht⟩ : ∃ t, p[i]? = some t := ⟨_, List.getElem?_eq_getElem hlt⟩
    have htm := List.mem_of_getElem? ht
    obtain ⟨tc, te⟩ := fp t htm
    have tlo := lo0_le hc t htm
    have thi := hN t htm
    obtain ⟨id, off, cap, e1, r0⟩ := hp.at (i := i) (p := tmP t) (by simp [ht])
    rw [tms_len] at e1
    subst e1
    have r1 := readN_ext st.e r0
    simp only [cM, eM] at tc te hlo
    have k27 := fun H (e : Ext h0 H) => call27 H false _ p (hp.ext e)
    have k37 := fun H => call37 H t.2 (by omega)
    simp only [wd_P] at k37
    have hk : (t.1 - lo0 p).toNat < (smL (fun e => cf (p.take i) e) (lo0 p) N).length := by rw [smL_len]; omega
    obtain ⟨v, hv⟩ : ∃ v, (smL (fun e => cf (p.take i) e) (lo0 p) N)[(t.1 - lo0 p).toNat]? = some v := ⟨_, List.getElem?_eq_getElem hk⟩
    obtain ⟨id2, cap2, e2, -⟩ := st.rd hv
    have tk : p.take (i + 1) = p.take i ++ [t] := by rw [List.take_add_one, ht]; rfl
    have hset : (smL (fun e => cf (p.take i) e) (lo0 p) N).set (t.1 - lo0 p).toNat t.2 = smL (fun e => cf (p.take (i + 1)) e) (lo0 p) N := by
      have := smL_set (f := fun e => cf (p.take i) e) (lo := lo0 p) (e := t.1) (w := t.2) (n := N) tlo (by omega)
      rw [smL_at (by omega), show lo0 p + ((t.1 - lo0 p).toNat : Int) = t.1 by omega, cf_new hc ht, Int.zero_add] at this
      rw [this]
      exact smL_congr fun e => by rw [tk, cf_app, cf_cons]; show _ = _ + (t.2 * dl e t.1 + 0); omega
    subst e2
    repeat' (first | refine w_seq ?_ | refine w_seqN ?_ | refine w_blk ?_ | refine w_blkN ?_ | refine w_skip ?_ | refine w_ops ?_ | refine w_opsD ?_ | refine d_one ?_ | refine d_nil ?_ | ((refine i_cond ?_); refine w_condT rfl ?_) | ((refine i_nil ?_); first | refine d_same ?_ | refine d_ord ?_ | refine d_ext (by assumption) ?_ | refine w_end8 rfl rfl rfl rfl rfl rfl rfl rfl ?_ | refine w_end9 rfl rfl rfl rfl rfl rfl rfl rfl rfl ?_) | ((refine i_cons ?_); first | refine k_idxA (esz := 2) rfl rfl (by omega) ?_ | refine k_ldD rfl r1 ?_ | (refine k_newst rfl ?_; intro h2 e2 c2; have s2 := st.ext e2) | refine k_fldA rfl ?_ | refine k_ldC0 rfl c2 ?_ | refine k_ldC rfl s2.c2 ?_ | (refine k_call rfl (k27 h2 s2.e) ?_; rintro r h3 ⟨e3, rfl⟩; have s3 := s2.ext e3; have c3 := c2.ext e3) | refine k_ldC1 rfl c3 ?_ | (refine k_call rfl (k37 h3) ?_; rintro r h4 ⟨e4, rfl⟩; have s4 := s3.ext e4; obtain ⟨id5, cap5, h5, e5, w5, s5, f5, l5⟩ := s4.put hk t.2; cases e5) | refine k_stD rfl rfl w5 ?_ | refine k_mv rfl ?_ | refine k_add rfl rfl (by omega) ?_ | refine k_sub rfl rfl (by omega) ?_ | refine k_lssT rfl rfl (by omega) ?_))
    rw [hset] at s5
    exact w_roundN ⟨i + 1, by omega, s5, rfl⟩ (by simp [cK, Env.keep, Env.get]; omega)
  · have : i = p.length := by omega
    subst this
    rw [List.take_length] at st
    repeat' (first | refine w_seq ?_ | refine w_seqN ?_ | refine w_seqX ?_ | refine w_exit ?_ | refine w_ops ?_ | ((refine i_cond ?_); refine w_condF rfl ?_) | ((refine i_nil ?_); refine w_end9 rfl rfl rfl rfl rfl rfl rfl rfl rfl ?_) | ((refine i_cons ?_); refine k_lssF rfl rfl (by omega) ?_))
    exact w_roundX ⟨rfl, _, _, _, _, st, rfl⟩
/-- What is left: all zero? -/
def I13d (h0 hb : Heap) (q4 q10 : Nat) (S : SV) (vs : List Int) (E : Env) (h : Heap) : Prop := ∃ i : Nat, i ≤ vs.length ∧ (∀ k < i, vs.getD k 0 = 0) ∧ Ext hb h ∧
  E.keep [4, 10, 170, 171, 172] = [(4, some (.sc (.ptr q4 0))), (10, some (.sc (.ptr q10 0))), (170, some (.sc S)), (171, some (.sc (.int .i64 (vs.length : Nat)))), (172, some (.sc (.int .i64 (i : Nat))))]
def R13d (h0 hb : Heap) (q4 q10 : Nat) (vs : List Int) (ex : Ex) (E : Env) (h : Heap) : Prop :=
  (ex = .ex 7 ∧ ∃ a b c d, (∀ k < vs.length, vs.getD k 0 = 0) ∧ Ext hb h ∧ E = [(4, some (.sc (.ptr q4 0))), (10, some (.sc (.ptr q10 0))), (170, a), (171, b), (172, c), (173, d)]) ∨
  (ex = .rt ∧ ¬ (∀ k < vs.length, vs.getD k 0 = 0) ∧ Ext h0 h ∧ Cel h q4 (.bool false) .nilS ∧ E = [(4, some (.sc (.ptr q4 0))), (5, some (.sc (.int .i64 10)))])
theorem round13d (h0 hb : Heap) (q4 q10 : Nat) (S : SV) (vs : List Int) (hs : IsD hb S (vs.map wdP)) (he : Ext h0 hb) (c4 : Cel hb q4 (.bool false) .nilS) (l4 : h0.length ≤ q4) (hv : ∀ v ∈ vs, -170141183460469231731687303715884105728 < v ∧ v < 170141183460469231731687303715884105728) (hl : vs.length ≤ 10000000) (E : Env) (h : Heap) (hI : I13d h0 hb q4 q10 S vs E h) :
    wA FT HKt b13L3 (E.keep [4, 10, 170, 171, 172]) h (wRound (I13d h0 hb q4 q10 S vs) (cK [4, 10, 170, 171, 172] vs.length 172) (cK [4, 10, 170, 171, 172] vs.length 172 E h) (R13d h0 hb q4 q10 vs)) := by
  obtain ⟨i, hi, hz, st, hE⟩ := hI
  have hm : cK [4, 10, 170, 171, 172] vs.length 172 E h = vs.length - i := by unfold cK; rw [hE]; rfl
  rw [hm, hE]
  by_cases hlt : i < vs.length
  · obtain ⟨v, hvv⟩ : ∃ v, vs[i]? = some v := ⟨_, List.getElem?_eq_getElem hlt⟩
    have hvm := List.mem_of_getElem? hvv
    have hvd : vs.getD i 0 = v := by rw [List.getD_eq_getElem?_getD, hvv]; rfl
    obtain ⟨id, off, cap, e1, r0⟩ := hs.at (i := i) (p := wdP v) (by simp [hvv])
    rw [List.length_map] at e1
    subst e1
    have r1 := readN_ext st r0
    have k38 := fun H => call38 H v (hv v hvm)
    simp only [wd_P] at k38
    by_cases hz0 : v = 0
    · rw [decide_eq_true hz0] at k38
      repeat' (first | refine w_seq ?_ | refine w_seqN ?_ | refine w_blk ?_ | refine w_blkN ?_ | refine w_skip ?_ | refine w_ops ?_ | ((refine i_cond ?_); first | refine w_condT rfl ?_ | refine w_condF rfl ?_) | ((refine i_nil ?_); first | refine w_end5 rfl rfl rfl rfl rfl ?_ | refine w_end6 rfl rfl rfl rfl rfl rfl ?_) | ((refine i_cons ?_); first | refine k_idxA (esz := 2) rfl rfl (by omega) ?_ | refine k_ldD rfl r1 ?_ | (refine k_newst rfl ?_; intro h2 e2 c2) | refine k_ldC rfl c2 ?_ | (refine k_call rfl (k38 _) ?_; rintro r h3 ⟨e3, rfl⟩) | refine k_mv rfl ?_ | refine k_notT rfl ?_ | refine k_add rfl rfl (by omega) ?_ | refine k_lssT rfl rfl (by omega) ?_))
      exact w_roundN ⟨i + 1, by omega, fun k hk => by
        by_cases e : k = i
        · rw [e, hvd]; exact hz0
        · exact hz k (by omega), st.trans (e2.trans e3), rfl⟩ (by simp [cK, Env.keep, Env.get]; omega)
    · rw [decide_eq_false hz0] at k38
      repeat' (first | refine w_seq ?_ | refine w_seqN ?_ | refine w_seqR ?_ | refine w_blk ?_ | refine w_blkR ?_ | refine w_skip ?_ | refine w_ret ?_ | refine w_ops ?_ | ((refine i_cond ?_); refine w_condT rfl ?_) | ((refine i_nil ?_); first | refine w_end2 rfl rfl ?_ | refine w_end6 rfl rfl rfl rfl rfl rfl ?_) | ((refine i_cons ?_); first | refine k_idxA (esz := 2) rfl rfl (by omega) ?_ | refine k_ldD rfl r1 ?_ | (refine k_newst rfl ?_; intro h2 e2 c2) | refine k_ldC rfl c2 ?_ | (refine k_call rfl (k38 _) ?_; rintro r h3 ⟨e3, rfl⟩; have d4 := c4.ext (st.trans (e2.trans e3))) | (refine k_bld rfl rfl ?_) | (refine k_stC rfl rfl d4 ?_; intro h6 w6) | refine k_mv rfl ?_ | refine k_notF rfl ?_ | refine k_lssT rfl rfl (by omega) ?_))
      exact w_roundR (.inr ⟨rfl, fun h => hz0 (by rw [← hvd]; exact h i hlt), w6.ext (he.trans (st.trans (e2.trans e3))) l4, w6.cel, rfl⟩)
  · have : i = vs.length := by omega
    subst this
    repeat' (first | refine w_seq ?_ | refine w_seqN ?_ | refine w_seqX ?_ | refine w_exit ?_ | refine w_ops ?_ | ((refine i_cond ?_); refine w_condF rfl ?_) | ((refine i_nil ?_); refine w_end6 rfl rfl rfl rfl rfl rfl ?_) | ((refine i_cons ?_); refine k_lssF rfl rfl (by omega) ?_))
    exact w_roundX (.inl ⟨rfl, _, _, _, _, hz, st, rfl⟩)
end Go.Proofs.YtlnjddjobbhcaaaDoor


namespace Go.Proofs.YtlnjddjobbhcaaaDoor
open Go.Ab
set_option linter.unusedVariables false
set_option linter.unusedSimpArgs false
set_option maxRecDepth 20000
set_option maxHeartbeats 4000000
attribute [local irreducible] wOps wA wSeq wBlk wRound wRoundI wOpsD wOpsS

structure St13 (h0 h : Heap) (q2 q3 q4 q10 : Nat) (sp sq S s : SV) (vs : List Int) (r : List Tm) : Prop where
  a : Sa h0 h q2 q3 q4 sp sq S vs
  cX : Cel h q10 (.bool false) s
  os : OwnD h0 h s (tms r)
  ap : Go.Ab.Apart s S
theorem St13.ext {h0 h h' : Heap} {q2 q3 q4 q10 : Nat} {sp sq S s : SV} {vs : List Int} {r : List Tm} (st : St13 h0 h q2 q3 q4 q10 sp sq S s vs r) (he : Ext h h') : St13 h0 h' q2 q3 q4 q10 sp sq S s vs r :=
  ⟨st.a.ext he, st.cX.ext he, st.os.ext he, st.ap⟩
theorem St13.put {h0 h : Heap} {q2 q3 q4 q10 : Nat} {sp sq S s : SV} {vs : List Int} {r : List Tm} (st : St13 h0 h q2 q3 q4 q10 sp sq S s vs r) {k : Nat} (hk : k < vs.length) (v : Int) :
    ∃ id cap h', S = .slc id 0 vs.length cap ∧ writeN h id (0 + k * 2) [(wdP v).1, (wdP v).2] = some h' ∧ St13 h0 h' q2 q3 q4 q10 sp sq S s (vs.set k v) r := by
  obtain ⟨id, cap, h', e1, w1, a1, f1, l1⟩ := st.a.put hk v
  exact ⟨id, cap, h', e1, w1, a1, st.cX.fram f1 (st.a.o.cel st.cX), st.os.away f1 st.ap.symm, st.ap⟩
theorem St13.push {h0 h h6 h7 : Heap} {q2 q3 q4 q10 : Nat} {sp sq S s s' : SV} {vs : List Int} {r r' : List Tm} (st : St13 h0 h q2 q3 q4 q10 sp sq S s vs r) (o6 : OwnD h0 h6 s' (tms r')) (e6 : Ext h0 h6) (f6 : Fram h h6 s s') (w7 : Wr h6 h7 q10 (.bool false) s') (l : h0.length ≤ q10 ∧ q2 ≠ q10 ∧ q3 ≠ q10 ∧ q4 ≠ q10) :
    St13 h0 h7 q2 q3 q4 q10 sp sq S s' vs r' :=
  ⟨⟨w7.ext e6 l.1, w7.keep (st.a.c2.fram f6 (st.os.cel st.a.c2)) l.2.1, w7.keep (st.a.c3.fram f6 (st.os.cel st.a.c3)) l.2.2.1, w7.keep (st.a.c4.fram f6 (st.os.cel st.a.c4)) l.2.2.2, (st.a.o.away f6 st.ap).wrC w7⟩, w7.cel, o6.wrC w7, Fram.apart f6 st.a.o.is st.ap⟩
def I13c (h0 : Heap) (q2 q3 q4 q10 : Nat) (sp sq S s : SV) (f : Int → Int) (lo : Int) (q r : List Tm) (N i : Nat) (c st : Int) (E : Env) (h : Heap) : Prop := ∃ j : Nat, j ≤ q.length ∧ St13 h0 h q2 q3 q4 q10 sp sq S s (smL (fun e => f e - mc [(lo - lo0 q + i, c)] (q.take j) e) lo N) r ∧
  E.keep [2, 3, 4, 6, 7, 10, 11, 12, 93, 94, 139, 140, 141] = [(2, some (.sc (.ptr q2 0))), (3, some (.sc (.ptr q3 0))), (4, some (.sc (.ptr q4 0))), (6, some (.sc (.int .i64 st))), (7, some (.sc S)), (10, some (.sc (.ptr q10 0))), (11, some (.sc (.int .i64 (i : Nat)))), (12, some (.sc (.int .i64 c))), (93, some (.sc (.int .i64 (st + 1)))), (94, some (.sc (.int .i64 (i : Nat)))), (139, some (.sc sq)), (140, some (.sc (.int .i64 (q.length : Nat)))), (141, some (.sc (.int .i64 (j : Nat))))]
def R13c (h0 : Heap) (q2 q3 q4 q10 : Nat) (sp sq S s : SV) (f : Int → Int) (lo : Int) (q r : List Tm) (N i : Nat) (c st : Int) (ex : Ex) (E : Env) (h : Heap) : Prop :=
  ex = .ex 5 ∧ ∃ a b a' b' c' d', St13 h0 h q2 q3 q4 q10 sp sq S s (smL (fun e => f e - mc [(lo - lo0 q + i, c)] q e) lo N) r ∧
  E = [(2, some (.sc (.ptr q2 0))), (3, some (.sc (.ptr q3 0))), (4, some (.sc (.ptr q4 0))), (6, some (.sc (.int .i64 st))), (7, some (.sc S)), (10, some (.sc (.ptr q10 0))), (11, a), (12, b), (93, some (.sc (.int .i64 (st + 1)))), (94, some (.sc (.int .i64 (i : Nat)))), (139, a'), (140, b'), (141, c'), (142, d')]
theorem round13c (h0 : Heap) (q2 q3 q4 q10 : Nat) (sp sq S s : SV) (f : Int → Int) (lo : Int) (q r : List Tm) (N i : Nat) (c st : Int) (hq : IsD h0 sq (tms q)) (hqc : Can q) (fq : ∀ t ∈ q, t.2.natAbs ≤ cM ∧ t.1.natAbs ≤ eM) (ql : q.length ≤ 2097153) (hN : ∀ u ∈ q, (i : Int) + u.1 - lo0 q < N) (hi : i ≤ 10000000) (hc : c.natAbs ≤ cM) (hlq : (lo0 q).natAbs ≤ eM) (E : Env) (h : Heap) (hI : I13c h0 q2 q3 q4 q10 sp sq S s f lo q r N i c st E h) :
    wA FT HKt b13L2 (E.keep [2, 3, 4, 6, 7, 10, 11, 12, 93, 94, 139, 140, 141]) h (wRound (I13c h0 q2 q3 q4 q10 sp sq S s f lo q r N i c st) (cK [2, 3, 4, 6, 7, 10, 11, 12, 93, 94, 139, 140, 141] q.length 141) (cK [2, 3, 4, 6, 7, 10, 11, 12, 93, 94, 139, 140, 141] q.length 141 E h) (R13c h0 q2 q3 q4 q10 sp sq S s f lo q r N i c st)) := by
  obtain ⟨j, hj, st, hE⟩ := hI
  have hm : cK [2, 3, 4, 6, 7, 10, 11, 12, 93, 94, 139, 140, 141] q.length 141 E h = q.length - j := by unfold cK; rw [hE]; rfl
  rw [hm, hE]
  by_cases hlt : j < q.length
  · obtain ⟨u, hu⟩ : ∃ u, q[j]? = some u := ⟨_, List.getElem?_eq_getElem hlt⟩
    have hum := List.mem_of_getElem? hu
    obtain ⟨uc, ue⟩ := fq u hum
    have ulo := lo0_le hqc u hum
    have uhi := hN u hum
    obtain ⟨id, off, cap, e1, r0⟩ := hq.at (i := j) (p := tmP u) (by simp [hu])
    rw [tms_len] at e1
    subst e1
    have r1 := readN_ext st.a.e r0
    simp only [cM, eM] at uc ue hlq hc
    have k27 := fun H (e : Ext h0 H) => call27 H false _ q (hq.ext e)
    have k41 := fun H => call41 H (-c) u.2 (by omega) (by omega)
    obtain ⟨k, hk⟩ : ∃ k : Nat, (k : Int) = (i : Int) + u.1 - lo0 q := ⟨((i : Int) + u.1 - lo0 q).toNat, by omega⟩
    have hkN : k < N := by omega
    have tk : q.take (j + 1) = q.take j ++ [u] := by rw [List.take_add_one, hu]; rfl
    have hget := smL_get (f := fun e => f e - mc [(lo - lo0 q + i, c)] (q.take j) e) (lo := lo) hkN
    have hset := smL_set (f := fun e => f e - mc [(lo - lo0 q + i, c)] (q.take j) e) (lo := lo) (e := lo + k) (w := -c * u.2) (n := N) (by omega) (by omega)
    rw [show (lo + (k : Int) - lo).toNat = k by omega, smL_at hkN] at hset
    generalize f (lo + (k : Int)) - mc [(lo - lo0 q + i, c)] (q.take j) (lo + k) = v at hget hset
    rw [show smL (fun x => (f x - mc [(lo - lo0 q + i, c)] (q.take j) x) + -c * u.2 * dl x (lo + k)) lo N = smL (fun e => f e - mc [(lo - lo0 q + i, c)] (q.take (j + 1)) e) lo N from smL_congr fun e => by
      rw [tk, mc_snoc, show lo + (k : Int) = lo - lo0 q + i + u.1 by omega]; simp only [Int.neg_mul]; omega] at hset
    have k40 := fun H => call40 H v (-c * u.2)
    simp only [wd_P] at k40 k41
    obtain ⟨id2, cap2, e2, rS⟩ := st.a.rd hget
    subst e2
    repeat' (first | refine w_seq ?_ | refine w_seqN ?_ | refine w_blk ?_ | refine w_blkN ?_ | refine w_skip ?_ | refine w_ops ?_ | refine w_opsD ?_ | refine d_one ?_ | refine d_nil ?_ | ((refine i_cond ?_); refine w_condT rfl ?_) | ((refine i_nil ?_); first | refine d_same ?_ | refine d_ord ?_ | refine d_ext (by assumption) ?_ | refine w_end13 rfl rfl rfl rfl rfl rfl rfl rfl rfl rfl rfl rfl rfl ?_ | refine w_end14 rfl rfl rfl rfl rfl rfl rfl rfl rfl rfl rfl rfl rfl rfl ?_ | refine w_end15 rfl rfl rfl rfl rfl rfl rfl rfl rfl rfl rfl rfl rfl rfl rfl ?_) | ((refine i_cons ?_); first | refine k_idxA (esz := 2) rfl rfl (by omega) ?_ | refine k_idxA (esz := 2) rfl rfl (by rw [smL_len]; omega) ?_ | refine k_ldD rfl r1 ?_ | (refine k_newst rfl ?_; intro h2 e2 c2; have s2 := st.ext e2; have rS2 := readN_ext e2 rS) | refine k_fldA rfl ?_ | refine k_ldC0 rfl c2 ?_ | refine k_ldC rfl s2.a.c3 ?_ | (refine k_call rfl (k27 h2 s2.a.e) ?_; rintro r h3 ⟨e3, rfl⟩; have s3 := s2.ext e3; have c3 := c2.ext e3; have rS3 := readN_ext e3 rS2) | (have z := e3; refine k_sub rfl rfl (by omega) ?_; rw [← hk]) | refine k_ldD rfl rS3 ?_ | refine k_ldC1 rfl c3 ?_ | (refine k_call rfl (k41 h3) ?_; rintro r h4 ⟨e4, rfl⟩; have s4 := s3.ext e4) | (refine k_call rfl (k40 h4) ?_; rintro r h5 ⟨e5, rfl⟩; have s5 := s4.ext e5; obtain ⟨id5, cap5, h6, e6, w6, s6⟩ := s5.put (k := k) (by rw [smL_len]; exact hkN) (v + -c * u.2); cases e6) | refine k_stD rfl rfl w6 ?_ | refine k_mv rfl ?_ | refine k_add rfl rfl (by omega) ?_ | refine k_neg rfl (by omega) ?_ | refine k_lssT rfl rfl (by omega) ?_))
    rw [hset] at s6
    exact w_roundN ⟨j + 1, by omega, s6, rfl⟩ (by simp [cK, Env.keep, Env.get]; omega)
  · have : j = q.length := by omega
    subst this
    rw [List.take_length] at st
    repeat' (first | refine w_seq ?_ | refine w_seqN ?_ | refine w_seqX ?_ | refine w_exit ?_ | refine w_ops ?_ | ((refine i_cond ?_); refine w_condF rfl ?_) | ((refine i_nil ?_); refine w_end14 rfl rfl rfl rfl rfl rfl rfl rfl rfl rfl rfl rfl rfl rfl ?_) | ((refine i_cons ?_); refine k_lssF rfl rfl (by omega) ?_))
    exact w_roundX ⟨rfl, _, _, _, _, _, _, st, rfl⟩
end Go.Proofs.YtlnjddjobbhcaaaDoor

