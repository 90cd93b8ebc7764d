/- The reference's Neg, 48. -/
import Derived.Test.YtofknpknogfijaaGreatDoorEX6
namespace Go.Proofs.YtofknpknogfijaaGreatDoor
open Go.Ab
set_option linter.unusedVariables false
set_option linter.unusedSimpArgs false
set_option maxRecDepth 20000
set_option maxHeartbeats 4000000
attribute [local irreducible] wOps wA wSeq wBlk wRound wRoundI wOpsD wOpsS
set_option linter.unusedSectionVars false
variable [HB]

def ngT (t : Tm) : Tm := (t.1, -t.2)
def ngP (p : Pol) : Pol := ⟨p.big, p.ts.map ngT⟩
structure St48 (h0 h : Heap) (q1 q2 q3 : Nat) (b : Bool) (s so : SV) (r : List Tm) : Prop where
  e : Ext h0 h
  c1 : Cel h q1 s (.bool b)
  c2 : Cel h q2 .nilS (.bool false)
  c3 : Cel h q3 so (.bool b)
  o : OwnD h0 h so (tms r)
  l : h0.length ≤ q1 ∧ q1 < q2 ∧ q2 < q3
theorem St48.ext {h0 h h' : Heap} {q1 q2 q3 : Nat} {b : Bool} {s so : SV} {r : List Tm} (u : St48 h0 h q1 q2 q3 b s so r) (e : Ext h h') : St48 h0 h' q1 q2 q3 b s so r := ⟨u.e.trans e, u.c1.ext e, u.c2.ext e, u.c3.ext e, u.o.ext e, u.l⟩
def I48 (h0 : Heap) (q1 q2 q3 : Nat) (s : SV) (p : Pol) (k : Nat) (E : Env) (h : Heap) : Prop := ∃ (i : Nat) (so : SV), i ≤ p.ts.length ∧ k = p.ts.length - i ∧ St48 h0 h q1 q2 q3 p.big s so ((p.ts.take i).map ngT) ∧
  E.keep [1, 2, 3, 4] = [(1, some (.sc (.ptr q1 0))), (2, some (.sc (.ptr q2 0))), (3, some (.sc (.ptr q3 0))), (4, some (.sc (.int .i64 (i : Nat))))]
def R48 (h0 : Heap) (q1 q2 q3 : Nat) (s : SV) (p : Pol) (ex : Ex) (E : Env) (h : Heap) : Prop := ex = .ex 0 ∧ ∃ so a b, St48 h0 h q1 q2 q3 p.big s so (p.ts.map ngT) ∧
  E = [(1, some (.sc (.ptr q1 0))), (2, some (.sc (.ptr q2 0))), (3, some (.sc (.ptr q3 0))), (4, a), (12, b)]
theorem round48 (h0 : Heap) (q1 q2 q3 : Nat) (s : SV) (p : Pol) (hp : IsD h0 s (tms p.ts)) (hc : ∀ t ∈ p.ts, t.2.natAbs ≤ cM) (hn : p.ts.length ≤ 1000000) (k : Nat) (E : Env) (h : Heap) (hI : I48 h0 q1 q2 q3 s p k E h) :
    wA FT HKt b48L0 (E.keep [1, 2, 3, 4]) h (wRoundI (I48 h0 q1 q2 q3 s p) k (R48 h0 q1 q2 q3 s p)) := by
  obtain ⟨i, so, hi, rfl, sg, hE⟩ := hI
  rw [hE]
  have ls := hp.len
  rw [tms_len] at ls
  have c1 := sg.c1
  have c3 := sg.c3
  have l := sg.l
  by_cases hlt : i < p.ts.length
  · obtain ⟨t, ht⟩ : ∃ t, p.ts[i]? = some t := ⟨_, List.getElem?_eq_getElem hlt⟩
    have hct := hc t (List.mem_of_getElem? ht)
    simp only [cM] at hct
    obtain ⟨id, off, cap, rfl, rd0⟩ := IsD.at hp (i := i) (p := tmP t) (by rw [List.getElem?_map, ht]; rfl)
    have rd := readN_ext sg.e rd0
    obtain ⟨rda, rdb⟩ := rd1 rd
    rw [tms_len] at ls c1
    have en : (p.ts.take (i + 1)).map ngT = (p.ts.take i).map ngT ++ [(t.1, -t.2)] := by rw [List.take_add_one, ht, List.map_append]; rfl
    repeat' (first | refine w_seq ?_ | refine w_seqN ?_ | refine w_blk ?_ | refine w_blkN ?_ | refine w_skip ?_ | refine w_ops ?_ | refine w_opsD ?_ | refine d_one ?_ | refine d_nil ?_ | ((refine i_cond ?_); refine w_condT rfl ?_) | ((refine i_nil ?_); first | refine d_same ?_ | refine d_ord ?_ | refine d_ext (by assumption) ?_ | refine w_end4 rfl rfl rfl rfl ?_ | refine w_end5 rfl rfl rfl rfl rfl ?_) | ((refine i_cons ?_); first | refine k_fldA rfl ?_ | refine k_ldC0 rfl c1 ?_ | refine k_ldC0 rfl c3 ?_ | refine k_len rfl ls ?_ | refine k_idxA (esz := 2) rfl rfl (by omega) ?_ | refine k_ld rfl rda ?_ | refine k_ld rfl rdb ?_ | refine k_bld rfl rfl ?_ | (refine k_bslD rfl ?_; intro h8 e8 src8; have st8 := sg.ext e8) | (refine k_appD1 st8.e st8.o rfl rfl src8 (by rw [tms_len, List.length_map, List.length_take]; simp only [bigN]; omega) ?_; intro s' h2 o2 e2 f2 l2; have d3 := st8.c3.fram f2 (st8.o.cel st8.c3); have d1 := st8.c1.fram f2 (st8.o.cel st8.c1); have d2 := st8.c2.fram f2 (st8.o.cel st8.c2)) | (refine k_stC0 rfl rfl d3 ?_; intro h3 w3) | refine k_mv rfl ?_ | refine k_add rfl rfl (by omega) ?_ | refine k_neg rfl (by omega) ?_ | refine k_lssT rfl rfl (by omega) ?_))
    refine w_roundIN (j := p.ts.length - (i + 1)) (by omega) ⟨i + 1, s', by omega, rfl, ⟨w3.ext e2 (by omega), w3.keep d1 (by omega), w3.keep d2 (by omega), w3.cel, ?_, l⟩, rfl⟩
    have := o2.wrC w3
    rw [en]
    simpa [tms, tmP] using this
  · have hie : p.ts.take i = p.ts := List.take_of_length_le (by omega)
    rw [hie] at sg
    repeat' (first | refine w_seq ?_ | refine w_seqN ?_ | refine w_seqX ?_ | refine w_exit ?_ | refine w_ops ?_ | ((refine i_cond ?_); refine w_condF rfl ?_) | ((refine i_nil ?_); refine w_end5 rfl rfl rfl rfl rfl ?_) | ((refine i_cons ?_); first | refine k_fldA rfl ?_ | refine k_ldC0 rfl c1 ?_ | refine k_len rfl ls ?_ | refine k_mv rfl ?_ | refine k_lssF rfl rfl (by omega) ?_))
    exact w_roundIX ⟨rfl, so, _, _, sg, rfl⟩
/-- Neg. -/
theorem call48 (h0 : Heap) (s : SV) (p : Pol) (hp : IsD h0 s (tms p.ts)) (hc : ∀ t ∈ p.ts, t.2.natAbs ≤ cM) (hn : p.ts.length ≤ 1000000) :
    ∃ r h', Cal FT HKt 48 [.agg [s, .bool p.big]] h0 r h' ∧ Ext h0 h' ∧ IsRf h' r (ngP p) := by
  refine Cal.of (F := a48) rfl rfl rfl ?_
  repeat' (first | refine w_seq ?_ | refine w_seqN ?_ | refine w_blk ?_ | refine w_ops ?_ | ((refine i_nil ?_); first | refine w_end2 rfl rfl ?_ | refine w_end3 rfl rfl rfl ?_ | refine w_end4 rfl rfl rfl rfl ?_) | ((refine i_cons ?_); first | (have z := e2; refine k_newst rfl ?_; intro h3 e3 c3; have d1 := (c1.ext e2).ext e3; have d2 := c2.ext e3; have m2 := c2.lt; have m1 := c1.lt) | (have z := e1; refine k_newC ?_; intro h2 e2 c2; have c1' := c1.ext e2) | (refine k_boxC rfl ?_; intro h1 e1 c1) | refine k_fldA rfl ?_ | refine k_ldC1 rfl c1' ?_ | refine k_bld rfl rfl ?_ | refine k_mv rfl ?_))
  refine w_loopI (I48 h0 h0.length h1.length h2.length s p) p.ts.length (R48 h0 h0.length h1.length h2.length s p) ⟨0, .nilS, Nat.zero_le _, rfl, ⟨e1.trans (e2.trans e3), d1, d2, c3, .inl ⟨rfl, rfl⟩, ⟨Nat.le_refl _, m1, m2⟩⟩, rfl⟩ (round48 h0 h0.length h1.length h2.length s p hp hc hn) ?_
  rintro ex E' h4 ⟨rfl, so, _, _, sg, rfl⟩
  have c2' := sg.c2
  repeat' (first | refine w_seq ?_ | refine w_seqN ?_ | refine w_blkX ?_ | refine w_ret ?_ | refine w_ops ?_ | ((refine i_nil ?_); refine w_end1 rfl ?_) | ((refine i_cons ?_); first | refine k_ldC rfl sg.c3 ?_ | (refine k_stC rfl rfl c2' ?_; intro h5 w5)))
  exact ⟨.inr rfl, oK_cell rfl w5.cel.read ⟨w5.ext sg.e e1.len, so, rfl, (sg.o.wrC w5).is⟩⟩
end Go.Proofs.YtofknpknogfijaaGreatDoor


namespace Go.Proofs.YtofknpknogfijaaGreatDoor
open Go.Ab
set_option linter.unusedVariables false
set_option linter.unusedSimpArgs false
set_option maxRecDepth 20000
set_option maxHeartbeats 4000000
attribute [local irreducible] wOps wA wSeq wBlk wRound wRoundI wOpsD wOpsS
set_option linter.unusedSectionVars false
variable [HB]

def putAll (L : List Tm) (M : List Tm) : List Tm := L.foldl (fun M t => putM t.1 t.2 M) M
theorem putAll_snoc {L M : List Tm} {t : Tm} {i : Nat} (h : L[i]? = some t) : putAll (L.take (i + 1)) M = putM t.1 t.2 (putAll (L.take i) M) := by
  unfold putAll
  rw [List.take_add_one, h, List.foldl_append]
  rfl
theorem putM_len (e v : Int) : ∀ M : List Tm, (putM e v M).length ≤ M.length + 1
  | [] => by simp [putM]
  | u :: r => by
    have := putM_len e v r
    unfold putM
    split
    · simp only [List.length_cons]; omega
    split <;> simp only [List.length_cons] <;> omega
theorem putM_bd {e v : Int} {B : Nat} : ∀ {M : List Tm}, (∀ u ∈ M, u.2.natAbs ≤ B) → ∀ u ∈ putM e v M, u.2.natAbs ≤ B + v.natAbs
  | [], h, u, hu => by simp [putM] at hu; subst hu; simp
  | a :: r, h, u, hu => by
    have h0 := h a (.head _)
    have h1 : ∀ u ∈ r, u.2.natAbs ≤ B := fun u hu => h u (.tail _ hu)
    unfold putM at hu
    split at hu
    · rcases List.mem_cons.1 hu with rfl | hu
      · omega
      · exact putM_bd h1 u hu
    split at hu
    · rcases List.mem_cons.1 hu with rfl | hu
      · simp only; omega
      · have := h1 u hu; omega
    · rcases List.mem_cons.1 hu with rfl | hu
      · simp only; omega
      · have := h u hu; omega
/-- Sums: what the two slices hold. -/
structure Sm2 (h : Heap) (sx st : SV) (M : List Tm) (n B : Nat) : Prop where
  x : IsInts h sx (M.map (·.1))
  t : IsD h st (M.map wp)
  len : M.length ≤ n
  bd : ∀ u ∈ M, u.2.natAbs ≤ n * B
theorem Sm2.ext {h h' : Heap} {sx st : SV} {M : List Tm} {n B : Nat} (m : Sm2 h sx st M n B) (e : Ext h h') : Sm2 h' sx st M n B := ⟨IsSl.ext m.x e, m.t.ext e, m.len, m.bd⟩
theorem Sm2.put {h h' : Heap} {sx st s1 s2 : SV} {M : List Tm} {n B : Nat} {e v : Int} (m : Sm2 h sx st M n B) (hv : v.natAbs ≤ B) (hx : IsInts h' s1 ((putM e v M).map (·.1))) (ht : IsD h' s2 ((putM e v M).map wp)) : Sm2 h' s1 s2 (putM e v M) (n + 1) B :=
  ⟨hx, ht, Nat.le_trans (putM_len e v M) (by have := m.len; omega), fun u hu => by have := putM_bd m.bd u hu; rw [Nat.add_mul]; omega⟩
theorem call80m (h0 : Heap) (sx st : SV) (e v : Int) (M : List Tm) (n B : Nat) (m : Sm2 h0 sx st M n B) (hn : n ≤ 1000000) (hB : n * B ≤ 2 ^ 104) (hv : v.natAbs ≤ 2 ^ 104) (hvB : v.natAbs ≤ B) :
    ∃ r h', Cal FT HKt 80 [.sc sx, .sc st, .sc (.int .i64 e), nf v] h0 r h' ∧ Ext h0 h' ∧ ∃ s1 s2, r = .tup [.sc s1, .sc s2] ∧ Sm2 h' s1 s2 (putM e v M) (n + 1) B := by
  obtain ⟨r, h', a, b, s1, s2, rfl, c, d⟩ := call80 h0 sx st e v M m.x m.t (by have := m.len; omega) hv fun u hu => Nat.le_trans (m.bd u hu) hB
  exact ⟨_, h', a, b, s1, s2, rfl, m.put hvB c d⟩
structure St49 (h0 h : Heap) (q2 q3 q4 : Nat) (s t : SV) (bp bq : Bool) : Prop where
  e : Ext h0 h
  c2 : Cel h q2 s (.bool bp)
  c3 : Cel h q3 t (.bool bq)
  c4 : Cel h q4 .nilS (.bool false)
theorem St49.ext {h0 h h' : Heap} {q2 q3 q4 : Nat} {s t : SV} {bp bq : Bool} (u : St49 h0 h q2 q3 q4 s t bp bq) (e : Ext h h') : St49 h0 h' q2 q3 q4 s t bp bq := ⟨u.e.trans e, u.c2.ext e, u.c3.ext e, u.c4.ext e⟩
def I49a (h0 : Heap) (q2 q3 q4 : Nat) (s t : SV) (bp bq : Bool) (P : List Tm) (k : Nat) (E : Env) (h : Heap) : Prop := ∃ (i : Nat) (sx st : SV), i ≤ P.length ∧ k = P.length - i ∧ St49 h0 h q2 q3 q4 s t bp bq ∧ Sm2 h sx st (putAll (P.take i) []) i cM ∧
  E.keep [2, 3, 4, 5, 6, 7] = [(2, some (.sc (.ptr q2 0))), (3, some (.sc (.ptr q3 0))), (4, some (.sc (.ptr q4 0))), (5, some (.sc sx)), (6, some (.sc st)), (7, some (.sc (.int .i64 (i : Nat))))]
def R49a (h0 : Heap) (q2 q3 q4 : Nat) (s t : SV) (bp bq : Bool) (P : List Tm) (ex : Ex) (E : Env) (h : Heap) : Prop := ex = .ex 0 ∧ ∃ sx st a b, St49 h0 h q2 q3 q4 s t bp bq ∧ Sm2 h sx st (putAll P []) P.length cM ∧
  E = [(2, some (.sc (.ptr q2 0))), (3, some (.sc (.ptr q3 0))), (4, some (.sc (.ptr q4 0))), (5, some (.sc sx)), (6, some (.sc st)), (7, a), (20, b)]
structure St49b (h0 h : Heap) (q3 q4 : Nat) (t : SV) (bq : Bool) : Prop where
  e : Ext h0 h
  c3 : Cel h q3 t (.bool bq)
  c4 : Cel h q4 .nilS (.bool false)
def I49b (h0 : Heap) (q3 q4 : Nat) (t : SV) (bq : Bool) (Q M0 : List Tm) (n0 : Nat) (k : Nat) (E : Env) (h : Heap) : Prop := ∃ (i : Nat) (sx st : SV), i ≤ Q.length ∧ k = Q.length - i ∧ St49b h0 h q3 q4 t bq ∧ Sm2 h sx st (putAll (Q.take i) M0) (n0 + i) cM ∧
  E.keep [3, 4, 5, 6, 8] = [(3, some (.sc (.ptr q3 0))), (4, some (.sc (.ptr q4 0))), (5, some (.sc sx)), (6, some (.sc st)), (8, some (.sc (.int .i64 (i : Nat))))]
def R49b (h0 : Heap) (q3 q4 : Nat) (t : SV) (bq : Bool) (Q M0 : List Tm) (n0 : Nat) (ex : Ex) (E : Env) (h : Heap) : Prop := ex = .ex 2 ∧ ∃ sx st a b c, St49b h0 h q3 q4 t bq ∧ Sm2 h sx st (putAll Q M0) (n0 + Q.length) cM ∧
  E = [(3, a), (4, some (.sc (.ptr q4 0))), (5, some (.sc sx)), (6, some (.sc st)), (8, b), (46, c)]
noncomputable def addR (p q : Pol) : Pol := if p.big = true ∨ q.big = true then bigP else colP (putAll q.ts (putAll p.ts []))
end Go.Proofs.YtofknpknogfijaaGreatDoor

