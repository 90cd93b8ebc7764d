/- Division: a multiple of the divisor is taken away. -/
import Derived.Test.YtlnjddjobbhcaaaDoorQ2
namespace Go.Proofs.YtlnjddjobbhcaaaDoor
open Go.Ab
set_option linter.unusedVariables false
set_option linter.unusedSimpArgs false
set_option maxRecDepth 20000
set_option maxHeartbeats 4000000
attribute [local irreducible] wOps wA wSeq wBlk wRound wRoundI wOpsD wOpsS

structure St13 (h0 h : Heap) (q2 q3 q4 q10 : Nat) (sp sq S s : SV) (vs : List Int) (r : List Tm) : Prop where
  a : Sa h0 h q2 q3 q4 sp sq S vs
  cX : Cel h q10 (.bool false) s
  os : OwnD h0 h s (tms r)
  ap : Go.Ab.Apart s S
theorem St13.ext {h0 h h' : Heap} {q2 q3 q4 q10 : Nat} {sp sq S s : SV} {vs : List Int} {r : List Tm} (st : St13 h0 h q2 q3 q4 q10 sp sq S s vs r) (he : Ext h h') : St13 h0 h' q2 q3 q4 q10 sp sq S s vs r :=
  ⟨st.a.ext he, st.cX.ext he, st.os.ext he, st.ap⟩
theorem St13.put {h0 h : Heap} {q2 q3 q4 q10 : Nat} {sp sq S s : SV} {vs : List Int} {r : List Tm} (st : St13 h0 h q2 q3 q4 q10 sp sq S s vs r) {k : Nat} (hk : k < vs.length) (v : Int) :
    ∃ id cap h', S = .slc id 0 vs.length cap ∧ writeN h id (0 + k * 2) [(wdP v).1, (wdP v).2] = some h' ∧ St13 h0 h' q2 q3 q4 q10 sp sq S s (vs.set k v) r := by
  obtain ⟨id, cap, h', e1, w1, a1, f1, l1⟩ := st.a.put hk v
  exact ⟨id, cap, h', e1, w1, a1, st.cX.fram f1 (st.a.o.cel st.cX), st.os.away f1 st.ap.symm, st.ap⟩
theorem St13.push {h0 h h6 h7 : Heap} {q2 q3 q4 q10 : Nat} {sp sq S s s' : SV} {vs : List Int} {r r' : List Tm} (st : St13 h0 h q2 q3 q4 q10 sp sq S s vs r) (o6 : OwnD h0 h6 s' (tms r')) (e6 : Ext h0 h6) (f6 : Fram h h6 s s') (w7 : Wr h6 h7 q10 (.bool false) s') (l : h0.length ≤ q10 ∧ q2 ≠ q10 ∧ q3 ≠ q10 ∧ q4 ≠ q10) :
    St13 h0 h7 q2 q3 q4 q10 sp sq S s' vs r' :=
  ⟨⟨w7.ext e6 l.1, w7.keep (st.a.c2.fram f6 (st.os.cel st.a.c2)) l.2.1, w7.keep (st.a.c3.fram f6 (st.os.cel st.a.c3)) l.2.2.1, w7.keep (st.a.c4.fram f6 (st.os.cel st.a.c4)) l.2.2.2, (st.a.o.away f6 st.ap).wrC w7⟩, w7.cel, o6.wrC w7, Fram.apart f6 st.a.o.is st.ap⟩
def I13c (h0 : Heap) (q2 q3 q4 q10 : Nat) (sp sq S s : SV) (f : Int → Int) (lo : Int) (q r : List Tm) (N i : Nat) (c st : Int) (E : Env) (h : Heap) : Prop := ∃ j : Nat, j ≤ q.length ∧ St13 h0 h q2 q3 q4 q10 sp sq S s (smL (fun e => f e - mc [(lo - lo0 q + i, c)] (q.take j) e) lo N) r ∧
  E.keep [2, 3, 4, 6, 7, 10, 11, 12, 93, 94, 139, 140, 141] = [(2, some (.sc (.ptr q2 0))), (3, some (.sc (.ptr q3 0))), (4, some (.sc (.ptr q4 0))), (6, some (.sc (.int .i64 st))), (7, some (.sc S)), (10, some (.sc (.ptr q10 0))), (11, some (.sc (.int .i64 (i : Nat)))), (12, some (.sc (.int .i64 c))), (93, some (.sc (.int .i64 (st + 1)))), (94, some (.sc (.int .i64 (i : Nat)))), (139, some (.sc sq)), (140, some (.sc (.int .i64 (q.length : Nat)))), (141, some (.sc (.int .i64 (j : Nat))))]
def R13c (h0 : Heap) (q2 q3 q4 q10 : Nat) (sp sq S s : SV) (f : Int → Int) (lo : Int) (q r : List Tm) (N i : Nat) (c st : Int) (ex : Ex) (E : Env) (h : Heap) : Prop :=
  ex = .ex 5 ∧ ∃ a b a' b' c' d', St13 h0 h q2 q3 q4 q10 sp sq S s (smL (fun e => f e - mc [(lo - lo0 q + i, c)] q e) lo N) r ∧
  E = [(2, some (.sc (.ptr q2 0))), (3, some (.sc (.ptr q3 0))), (4, some (.sc (.ptr q4 0))), (6, some (.sc (.int .i64 st))), (7, some (.sc S)), (10, some (.sc (.ptr q10 0))), (11, a), (12, b), (93, some (.sc (.int .i64 (st + 1)))), (94, some (.sc (.int .i64 (i : Nat)))), (139, a'), (140, b'), (141, c'), (142, d')]
theorem round13c (h0 : Heap) (q2 q3 q4 q10 : Nat) (sp sq S s : SV) (f : Int → Int) (lo : Int) (q r : List Tm) (N i : Nat) (c st : Int) (hq : IsD h0 sq (tms q)) (hqc : Can q) (fq : ∀ t ∈ q, t.2.natAbs ≤ cM ∧ t.1.natAbs ≤ eM) (ql : q.length ≤ 2097153) (hN : ∀ u ∈ q, (i : Int) + u.1 - lo0 q < N) (hi : i ≤ 10000000) (hc : c.natAbs ≤ cM) (hlq : (lo0 q).natAbs ≤ eM) (E : Env) (h : Heap) (hI : I13c h0 q2 q3 q4 q10 sp sq S s f lo q r N i c st E h) :
    wA FT HKt b13L2 (E.keep [2, 3, 4, 6, 7, 10, 11, 12, 93, 94, 139, 140, 141]) h (wRound (I13c h0 q2 q3 q4 q10 sp sq S s f lo q r N i c st) (cK [2, 3, 4, 6, 7, 10, 11, 12, 93, 94, 139, 140, 141] q.length 141) (cK [2, 3, 4, 6, 7, 10, 11, 12, 93, 94, 139, 140, 141] q.length 141 E h) (R13c h0 q2 q3 q4 q10 sp sq S s f lo q r N i c st)) := by
  obtain ⟨j, hj, st, hE⟩ := hI
  have hm : cK [2, 3, 4, 6, 7, 10, 11, 12, 93, 94, 139, 140, 141] q.length 141 E h = q.length - j := by unfold cK; rw [hE]; rfl
  rw [hm, hE]
  by_cases hlt : j < q.length
  · obtain ⟨u, hu⟩ : ∃ u, q[j]? = some u := ⟨_, List.getElem?_eq_getElem hlt⟩
    have hum := List.mem_of_getElem? hu
    obtain ⟨uc, ue⟩ := fq u hum
    have ulo := lo0_le hqc u hum
    have uhi := hN u hum
    obtain ⟨id, off, cap, e1, r0⟩ := hq.at (i := j) (p := tmP u) (by simp [hu])
    rw [tms_len] at e1
    subst e1
    have r1 := readN_ext st.a.e r0
    simp only [cM, eM] at uc ue hlq hc
    have k27 := fun H (e : Ext h0 H) => call27 H false _ q (hq.ext e)
    have k41 := fun H => call41 H (-c) u.2 (by omega) (by omega)
    obtain ⟨k, hk⟩ : ∃ k : Nat, (k : Int) = (i : Int) + u.1 - lo0 q := ⟨((i : Int) + u.1 - lo0 q).toNat, by omega⟩
    have hkN : k < N := by omega
    have tk : q.take (j + 1) = q.take j ++ [u] := by rw [List.take_add_one, hu]; rfl
    have hget := smL_get (f := fun e => f e - mc [(lo - lo0 q + i, c)] (q.take j) e) (lo := lo) hkN
    have hset := smL_set (f := fun e => f e - mc [(lo - lo0 q + i, c)] (q.take j) e) (lo := lo) (e := lo + k) (w := -c * u.2) (n := N) (by omega) (by omega)
    rw [show (lo + (k : Int) - lo).toNat = k by omega, smL_at hkN] at hset
    generalize f (lo + (k : Int)) - mc [(lo - lo0 q + i, c)] (q.take j) (lo + k) = v at hget hset
    rw [show smL (fun x => (f x - mc [(lo - lo0 q + i, c)] (q.take j) x) + -c * u.2 * dl x (lo + k)) lo N = smL (fun e => f e - mc [(lo - lo0 q + i, c)] (q.take (j + 1)) e) lo N from smL_congr fun e => by
      rw [tk, mc_snoc, show lo + (k : Int) = lo - lo0 q + i + u.1 by omega]; simp only [Int.neg_mul]; omega] at hset
    have k40 := fun H => call40 H v (-c * u.2)
    simp only [wd_P] at k40 k41
    obtain ⟨id2, cap2, e2, rS⟩ := st.a.rd hget
    subst e2
    repeat' (first | refine w_seq ?_ | refine w_seqN ?_ | refine w_seqX ?_ | refine w_seqR ?_ | refine w_blk ?_ | refine w_blkN ?_ | refine w_blkX ?_ | refine w_blkR ?_ | refine w_skip ?_ | refine w_ret ?_ | refine w_exit ?_ | refine w_ops ?_ | refine w_opsD ?_ | refine d_one ?_ | refine d_nil ?_ | (refine w_blkY ?_ ?_; rfl) | ((refine i_cond ?_); first | refine w_condT rfl ?_ | refine w_condF rfl ?_) | ((refine i_nil ?_); first | refine d_same ?_ | refine d_ord ?_ | refine d_ext ⟨_, rfl⟩ ?_ | refine d_ext (extA _ _ _) ?_ | refine d_ext (by assumption) ?_ | refine w_end0 ?_ | refine w_end1 rfl ?_ | refine w_end2 rfl rfl ?_ | refine w_end3 rfl rfl rfl ?_ | refine w_end4 rfl rfl rfl rfl ?_ | refine w_end5 rfl rfl rfl rfl rfl ?_ | refine w_end6 rfl rfl rfl rfl rfl rfl ?_ | refine w_end7 rfl rfl rfl rfl rfl rfl rfl ?_ | refine w_end8 rfl rfl rfl rfl rfl rfl rfl rfl ?_ | refine w_end9 rfl rfl rfl rfl rfl rfl rfl rfl rfl ?_ | refine w_end10 rfl rfl rfl rfl rfl rfl rfl rfl rfl rfl ?_ | refine w_end11 rfl rfl rfl rfl rfl rfl rfl rfl rfl rfl rfl ?_ | refine w_end12 rfl rfl rfl rfl rfl rfl rfl rfl rfl rfl rfl rfl ?_ | refine w_end13 rfl rfl rfl rfl rfl rfl rfl rfl rfl rfl rfl rfl rfl ?_ | refine w_end14 rfl rfl rfl rfl rfl rfl rfl rfl rfl rfl rfl rfl rfl rfl ?_ | refine w_end15 rfl rfl rfl rfl rfl rfl rfl rfl rfl rfl rfl rfl rfl rfl rfl ?_ | refine w_end16 rfl rfl rfl rfl rfl rfl rfl rfl rfl rfl rfl rfl rfl rfl rfl rfl ?_) | ((refine i_cons ?_); first | refine k_idxA (esz := 2) rfl rfl (by omega) ?_ | refine k_idxA (esz := 2) rfl rfl (by rw [smL_len]; omega) ?_ | refine k_ldD rfl r1 ?_ | (refine k_newst rfl ?_; intro h2 e2 c2; have s2 := st.ext e2; have rS2 := readN_ext e2 rS) | refine k_fldA rfl ?_ | refine k_ldC0 rfl c2 ?_ | refine k_ldC rfl s2.a.c3 ?_ | (refine k_call rfl (k27 h2 s2.a.e) ?_; rintro r h3 ⟨e3, rfl⟩; have s3 := s2.ext e3; have c3 := c2.ext e3; have rS3 := readN_ext e3 rS2) | (have z := e3; refine k_sub rfl rfl (by omega) ?_; rw [← hk]) | refine k_ldD rfl rS3 ?_ | refine k_ldC1 rfl c3 ?_ | (refine k_call rfl (k41 h3) ?_; rintro r h4 ⟨e4, rfl⟩; have s4 := s3.ext e4) | (refine k_call rfl (k40 h4) ?_; rintro r h5 ⟨e5, rfl⟩; have s5 := s4.ext e5; obtain ⟨id5, cap5, h6, e6, w6, s6⟩ := s5.put (k := k) (by rw [smL_len]; exact hkN) (v + -c * u.2); cases e6) | refine k_stD rfl rfl w6 ?_ | refine k_skip rfl ?_ | refine k_skipU rfl ?_ | refine k_want rfl ?_ | refine k_mv rfl ?_ | refine k_pickT rfl rfl ?_ | refine k_pickF rfl rfl ?_ | refine k_notT rfl ?_ | refine k_notF rfl ?_ | refine k_add rfl rfl (by omega) ?_ | refine k_sub rfl rfl (by omega) ?_ | refine k_mul rfl rfl (by omega) ?_ | refine k_neg rfl (by omega) ?_ | refine k_quo rfl rfl (by omega) ?_ | refine k_rem rfl rfl (by omega) ?_ | refine k_conv rfl (by omega) ?_ | refine k_max rfl rfl ?_ | refine k_min rfl rfl ?_ | refine k_lssT rfl rfl (by omega) ?_ | refine k_lssF rfl rfl (by omega) ?_ | refine k_lss rfl rfl (fun hc => ?_) (fun hc => ?_) | refine k_leqT rfl rfl (by omega) ?_ | refine k_leqF rfl rfl (by omega) ?_ | refine k_leq rfl rfl (fun hc => ?_) (fun hc => ?_) | refine k_gtrT rfl rfl (by omega) ?_ | refine k_gtrF rfl rfl (by omega) ?_ | refine k_gtr rfl rfl (fun hc => ?_) (fun hc => ?_) | refine k_geqT rfl rfl (by omega) ?_ | refine k_geqF rfl rfl (by omega) ?_ | refine k_geq rfl rfl (fun hc => ?_) (fun hc => ?_) | refine k_eqlT rfl rfl (by omega) ?_ | refine k_eqlF rfl rfl (by omega) ?_ | refine k_eql rfl rfl (fun hc => ?_) (fun hc => ?_) | refine k_neqT rfl rfl (by omega) ?_ | refine k_neqF rfl rfl (by omega) ?_ | refine k_neq rfl rfl (fun hc => ?_) (fun hc => ?_) | refine k_len rfl rfl ?_ | refine k_ok rfl rfl ?_))
    rw [hset] at s6
    exact w_roundN ⟨j + 1, by omega, s6, rfl⟩ (by simp [cK, Env.keep, Env.get]; omega)
  · have : j = q.length := by omega
    subst this
    rw [List.take_length] at st
    repeat' (first | refine w_seq ?_ | refine w_seqN ?_ | refine w_seqX ?_ | refine w_seqR ?_ | refine w_blk ?_ | refine w_blkN ?_ | refine w_blkX ?_ | refine w_blkR ?_ | refine w_skip ?_ | refine w_ret ?_ | refine w_exit ?_ | refine w_ops ?_ | refine w_opsD ?_ | refine d_one ?_ | refine d_nil ?_ | (refine w_blkY ?_ ?_; rfl) | ((refine i_cond ?_); first | refine w_condT rfl ?_ | refine w_condF rfl ?_) | ((refine i_nil ?_); first | refine d_same ?_ | refine d_ord ?_ | refine d_ext ⟨_, rfl⟩ ?_ | refine d_ext (extA _ _ _) ?_ | refine d_ext (by assumption) ?_ | refine w_end0 ?_ | refine w_end1 rfl ?_ | refine w_end2 rfl rfl ?_ | refine w_end3 rfl rfl rfl ?_ | refine w_end4 rfl rfl rfl rfl ?_ | refine w_end5 rfl rfl rfl rfl rfl ?_ | refine w_end6 rfl rfl rfl rfl rfl rfl ?_ | refine w_end7 rfl rfl rfl rfl rfl rfl rfl ?_ | refine w_end8 rfl rfl rfl rfl rfl rfl rfl rfl ?_ | refine w_end9 rfl rfl rfl rfl rfl rfl rfl rfl rfl ?_ | refine w_end10 rfl rfl rfl rfl rfl rfl rfl rfl rfl rfl ?_ | refine w_end11 rfl rfl rfl rfl rfl rfl rfl rfl rfl rfl rfl ?_ | refine w_end12 rfl rfl rfl rfl rfl rfl rfl rfl rfl rfl rfl rfl ?_ | refine w_end13 rfl rfl rfl rfl rfl rfl rfl rfl rfl rfl rfl rfl rfl ?_ | refine w_end14 rfl rfl rfl rfl rfl rfl rfl rfl rfl rfl rfl rfl rfl rfl ?_ | refine w_end15 rfl rfl rfl rfl rfl rfl rfl rfl rfl rfl rfl rfl rfl rfl rfl ?_ | refine w_end16 rfl rfl rfl rfl rfl rfl rfl rfl rfl rfl rfl rfl rfl rfl rfl rfl ?_) | ((refine i_cons ?_); first | refine k_skip rfl ?_ | refine k_skipU rfl ?_ | refine k_want rfl ?_ | refine k_mv rfl ?_ | refine k_pickT rfl rfl ?_ | refine k_pickF rfl rfl ?_ | refine k_notT rfl ?_ | refine k_notF rfl ?_ | refine k_add rfl rfl (by omega) ?_ | refine k_sub rfl rfl (by omega) ?_ | refine k_mul rfl rfl (by omega) ?_ | refine k_neg rfl (by omega) ?_ | refine k_quo rfl rfl (by omega) ?_ | refine k_rem rfl rfl (by omega) ?_ | refine k_conv rfl (by omega) ?_ | refine k_max rfl rfl ?_ | refine k_min rfl rfl ?_ | refine k_lssT rfl rfl (by omega) ?_ | refine k_lssF rfl rfl (by omega) ?_ | refine k_lss rfl rfl (fun hc => ?_) (fun hc => ?_) | refine k_leqT rfl rfl (by omega) ?_ | refine k_leqF rfl rfl (by omega) ?_ | refine k_leq rfl rfl (fun hc => ?_) (fun hc => ?_) | refine k_gtrT rfl rfl (by omega) ?_ | refine k_gtrF rfl rfl (by omega) ?_ | refine k_gtr rfl rfl (fun hc => ?_) (fun hc => ?_) | refine k_geqT rfl rfl (by omega) ?_ | refine k_geqF rfl rfl (by omega) ?_ | refine k_geq rfl rfl (fun hc => ?_) (fun hc => ?_) | refine k_eqlT rfl rfl (by omega) ?_ | refine k_eqlF rfl rfl (by omega) ?_ | refine k_eql rfl rfl (fun hc => ?_) (fun hc => ?_) | refine k_neqT rfl rfl (by omega) ?_ | refine k_neqF rfl rfl (by omega) ?_ | refine k_neq rfl rfl (fun hc => ?_) (fun hc => ?_) | refine k_len rfl rfl ?_ | refine k_ok rfl rfl ?_))
    exact w_roundX ⟨rfl, _, _, _, _, _, _, st, rfl⟩
end Go.Proofs.YtlnjddjobbhcaaaDoor
