/- The reference's Add, 47. -/
import Derived.Test.YtlnjddjobbhcaaaDoorEX7
namespace Go.Proofs.YtlnjddjobbhcaaaDoor
open Go.Ab
set_option linter.unusedVariables false
set_option linter.unusedSimpArgs false
set_option maxRecDepth 20000
set_option maxHeartbeats 4000000
attribute [local irreducible] wOps wA wSeq wBlk wRound wRoundI wOpsD wOpsS

def putAll (L : List Tm) (M : List Tm) : List Tm := L.foldl (fun M t => putM t.1 t.2 M) M
theorem putAll_snoc {L M : List Tm} {t : Tm} {i : Nat} (h : L[i]? = some t) : putAll (L.take (i + 1)) M = putM t.1 t.2 (putAll (L.take i) M) := by
  unfold putAll
  rw [List.take_add_one, h, List.foldl_append]
  rfl
theorem putM_len (e v : Int) : ∀ M : List Tm, (putM e v M).length ≤ M.length + 1
  | [] => by simp [putM]
  | u :: r => by
    have := putM_len e v r
    unfold putM
    split
    · simp only [List.length_cons]; omega
    split <;> simp only [List.length_cons] <;> omega
theorem putM_bd {e v : Int} {B : Nat} : ∀ {M : List Tm}, (∀ u ∈ M, u.2.natAbs ≤ B) → ∀ u ∈ putM e v M, u.2.natAbs ≤ B + v.natAbs
  | [], h, u, hu => by simp [putM] at hu; subst hu; simp
  | a :: r, h, u, hu => by
    have h0 := h a (.head _)
    have h1 : ∀ u ∈ r, u.2.natAbs ≤ B := fun u hu => h u (.tail _ hu)
    unfold putM at hu
    split at hu
    · rcases List.mem_cons.1 hu with rfl | hu
      · omega
      · exact putM_bd h1 u hu
    split at hu
    · rcases List.mem_cons.1 hu with rfl | hu
      · simp only; omega
      · have := h1 u hu; omega
    · rcases List.mem_cons.1 hu with rfl | hu
      · simp only; omega
      · have := h u hu; omega
/-- Sums: what the two slices hold. -/
structure Sm2 (h : Heap) (sx st : SV) (M : List Tm) (n B : Nat) : Prop where
  x : IsInts h sx (M.map (·.1))
  t : IsD h st (M.map wp)
  len : M.length ≤ n
  bd : ∀ u ∈ M, u.2.natAbs ≤ n * B
theorem Sm2.ext {h h' : Heap} {sx st : SV} {M : List Tm} {n B : Nat} (m : Sm2 h sx st M n B) (e : Ext h h') : Sm2 h' sx st M n B := ⟨IsSl.ext m.x e, m.t.ext e, m.len, m.bd⟩
theorem Sm2.put {h h' : Heap} {sx st s1 s2 : SV} {M : List Tm} {n B : Nat} {e v : Int} (m : Sm2 h sx st M n B) (hv : v.natAbs ≤ B) (hx : IsInts h' s1 ((putM e v M).map (·.1))) (ht : IsD h' s2 ((putM e v M).map wp)) : Sm2 h' s1 s2 (putM e v M) (n + 1) B :=
  ⟨hx, ht, Nat.le_trans (putM_len e v M) (by have := m.len; omega), fun u hu => by have := putM_bd m.bd u hu; rw [Nat.add_mul]; omega⟩
theorem call78m (h0 : Heap) (sx st : SV) (e v : Int) (M : List Tm) (n B : Nat) (m : Sm2 h0 sx st M n B) (hn : n ≤ 1000000) (hB : n * B ≤ 2 ^ 104) (hv : v.natAbs ≤ 2 ^ 104) (hvB : v.natAbs ≤ B) :
    ∃ r h', Cal FT HKt 78 [.sc sx, .sc st, .sc (.int .i64 e), nf v] h0 r h' ∧ Ext h0 h' ∧ ∃ s1 s2, r = .tup [.sc s1, .sc s2] ∧ Sm2 h' s1 s2 (putM e v M) (n + 1) B := by
  obtain ⟨r, h', a, b, s1, s2, rfl, c, d⟩ := call78 h0 sx st e v M m.x m.t (by have := m.len; omega) hv fun u hu => Nat.le_trans (m.bd u hu) hB
  exact ⟨_, h', a, b, s1, s2, rfl, m.put hvB c d⟩
structure St47 (h0 h : Heap) (q2 q3 q4 : Nat) (s t : SV) (bp bq : Bool) : Prop where
  e : Ext h0 h
  c2 : Cel h q2 s (.bool bp)
  c3 : Cel h q3 t (.bool bq)
  c4 : Cel h q4 .nilS (.bool false)
theorem St47.ext {h0 h h' : Heap} {q2 q3 q4 : Nat} {s t : SV} {bp bq : Bool} (u : St47 h0 h q2 q3 q4 s t bp bq) (e : Ext h h') : St47 h0 h' q2 q3 q4 s t bp bq := ⟨u.e.trans e, u.c2.ext e, u.c3.ext e, u.c4.ext e⟩
def I47a (h0 : Heap) (q2 q3 q4 : Nat) (s t : SV) (bp bq : Bool) (P : List Tm) (k : Nat) (E : Env) (h : Heap) : Prop := ∃ (i : Nat) (sx st : SV), i ≤ P.length ∧ k = P.length - i ∧ St47 h0 h q2 q3 q4 s t bp bq ∧ Sm2 h sx st (putAll (P.take i) []) i cM ∧
  E.keep [2, 3, 4, 5, 6, 7] = [(2, some (.sc (.ptr q2 0))), (3, some (.sc (.ptr q3 0))), (4, some (.sc (.ptr q4 0))), (5, some (.sc sx)), (6, some (.sc st)), (7, some (.sc (.int .i64 (i : Nat))))]
def R47a (h0 : Heap) (q2 q3 q4 : Nat) (s t : SV) (bp bq : Bool) (P : List Tm) (ex : Ex) (E : Env) (h : Heap) : Prop := ex = .ex 0 ∧ ∃ sx st a b, St47 h0 h q2 q3 q4 s t bp bq ∧ Sm2 h sx st (putAll P []) P.length cM ∧
  E = [(2, some (.sc (.ptr q2 0))), (3, some (.sc (.ptr q3 0))), (4, some (.sc (.ptr q4 0))), (5, some (.sc sx)), (6, some (.sc st)), (7, a), (20, b)]
theorem round47a (h0 : Heap) (q2 q3 q4 : Nat) (s t : SV) (bp bq : Bool) (P : List Tm) (hp : IsD h0 s (tms P)) (hc : ∀ t ∈ P, t.2.natAbs ≤ cM) (hn : P.length ≤ 1000) (k : Nat) (E : Env) (h : Heap) (hI : I47a h0 q2 q3 q4 s t bp bq P k E h) :
    wA FT HKt b47L0 (E.keep [2, 3, 4, 5, 6, 7]) h (wRoundI (I47a h0 q2 q3 q4 s t bp bq P) k (R47a h0 q2 q3 q4 s t bp bq P)) := by
  obtain ⟨i, sx, st, hi, rfl, sg, sm, hE⟩ := hI
  rw [hE]
  have ls := hp.len
  rw [tms_len] at ls
  have c2 := sg.c2
  by_cases hlt : i < P.length
  · obtain ⟨u, hu⟩ : ∃ u, P[i]? = some u := ⟨_, List.getElem?_eq_getElem hlt⟩
    have hcu := hc u (List.mem_of_getElem? hu)
    obtain ⟨id, off, cap, rfl, rd0⟩ := IsD.at hp (i := i) (p := tmP u) (by rw [List.getElem?_map, hu]; rfl)
    have rd := readN_ext sg.e rd0
    obtain ⟨rda, rdb⟩ := rd1 rd
    have k79 := fun H => call79 H u.2 1 hcu (by decide)
    rw [Int.mul_one] at k79
    have k78 := fun H (m : Sm2 H sx st (putAll (P.take i) []) i cM) => call78m H sx st u.1 u.2 _ i cM m (by omega) (by simp only [cM]; omega) (by simp only [cM] at hcu; omega) hcu
    rw [← putAll_snoc hu] at k78
    rw [tms_len] at ls c2 sg ⊢
    repeat' (first | refine w_seq ?_ | refine w_seqN ?_ | refine w_blk ?_ | refine w_blkN ?_ | refine w_skip ?_ | refine w_ops ?_ | refine w_opsD ?_ | refine d_one ?_ | refine d_nil ?_ | ((refine i_cond ?_); refine w_condT rfl ?_) | ((refine i_nil ?_); first | refine d_same ?_ | refine d_ord ?_ | refine d_ext (by assumption) ?_ | refine w_end6 rfl rfl rfl rfl rfl rfl ?_ | refine w_end7 rfl rfl rfl rfl rfl rfl rfl ?_) | ((refine i_cons ?_); first | refine k_fldA rfl ?_ | refine k_ldC0 rfl c2 ?_ | refine k_len rfl ls ?_ | refine k_idxA (esz := 2) rfl rfl (by omega) ?_ | refine k_ld rfl rda ?_ | refine k_ld rfl rdb ?_ | (refine k_call rfl (k79 h) ?_; rintro r h1 ⟨e1, rfl⟩; have m1 := sm.ext e1) | (refine k_call rfl (k78 h1 m1) ?_; rintro r h2 ⟨e2, s1, s2, rfl, m2⟩) | refine k_mv rfl ?_ | refine k_add rfl rfl (by omega) ?_ | refine k_lssT rfl rfl (by omega) ?_ | refine k_ok rfl rfl ?_))
    exact w_roundIN (j := P.length - (i + 1)) (by omega) ⟨i + 1, s1, s2, by omega, rfl, (sg.ext e1).ext e2, m2, rfl⟩
  · have : i = P.length := by omega
    subst this
    rw [List.take_length] at sm
    repeat' (first | refine w_seq ?_ | refine w_seqN ?_ | refine w_seqX ?_ | refine w_exit ?_ | refine w_ops ?_ | ((refine i_cond ?_); refine w_condF rfl ?_) | ((refine i_nil ?_); refine w_end7 rfl rfl rfl rfl rfl rfl rfl ?_) | ((refine i_cons ?_); first | refine k_fldA rfl ?_ | refine k_ldC0 rfl c2 ?_ | refine k_len rfl ls ?_ | refine k_mv rfl ?_ | refine k_lssF rfl rfl (by omega) ?_))
    exact w_roundIX ⟨rfl, sx, st, _, _, sg, sm, rfl⟩
structure St47b (h0 h : Heap) (q3 q4 : Nat) (t : SV) (bq : Bool) : Prop where
  e : Ext h0 h
  c3 : Cel h q3 t (.bool bq)
  c4 : Cel h q4 .nilS (.bool false)
theorem St47b.ext {h0 h h' : Heap} {q3 q4 : Nat} {t : SV} {bq : Bool} (u : St47b h0 h q3 q4 t bq) (e : Ext h h') : St47b h0 h' q3 q4 t bq := ⟨u.e.trans e, u.c3.ext e, u.c4.ext e⟩
def I47b (h0 : Heap) (q3 q4 : Nat) (t : SV) (bq : Bool) (Q M0 : List Tm) (n0 : Nat) (k : Nat) (E : Env) (h : Heap) : Prop := ∃ (i : Nat) (sx st : SV), i ≤ Q.length ∧ k = Q.length - i ∧ St47b h0 h q3 q4 t bq ∧ Sm2 h sx st (putAll (Q.take i) M0) (n0 + i) cM ∧
  E.keep [3, 4, 5, 6, 8] = [(3, some (.sc (.ptr q3 0))), (4, some (.sc (.ptr q4 0))), (5, some (.sc sx)), (6, some (.sc st)), (8, some (.sc (.int .i64 (i : Nat))))]
def R47b (h0 : Heap) (q3 q4 : Nat) (t : SV) (bq : Bool) (Q M0 : List Tm) (n0 : Nat) (ex : Ex) (E : Env) (h : Heap) : Prop := ex = .ex 2 ∧ ∃ sx st a b c, St47b h0 h q3 q4 t bq ∧ Sm2 h sx st (putAll Q M0) (n0 + Q.length) cM ∧
  E = [(3, a), (4, some (.sc (.ptr q4 0))), (5, some (.sc sx)), (6, some (.sc st)), (8, b), (46, c)]
theorem round47b (h0 : Heap) (q3 q4 : Nat) (t : SV) (bq : Bool) (Q M0 : List Tm) (n0 : Nat) (hn0 : n0 ≤ 1000) (hp : IsD h0 t (tms Q)) (hc : ∀ t ∈ Q, t.2.natAbs ≤ cM) (hn : Q.length ≤ 1000) (k : Nat) (E : Env) (h : Heap) (hI : I47b h0 q3 q4 t bq Q M0 n0 k E h) :
    wA FT HKt b47L1 (E.keep [3, 4, 5, 6, 8]) h (wRoundI (I47b h0 q3 q4 t bq Q M0 n0) k (R47b h0 q3 q4 t bq Q M0 n0)) := by
  obtain ⟨i, sx, st, hi, rfl, sg, sm, hE⟩ := hI
  rw [hE]
  have ls := hp.len
  rw [tms_len] at ls
  have c3 := sg.c3
  by_cases hlt : i < Q.length
  · obtain ⟨u, hu⟩ : ∃ u, Q[i]? = some u := ⟨_, List.getElem?_eq_getElem hlt⟩
    have hcu := hc u (List.mem_of_getElem? hu)
    obtain ⟨id, off, cap, rfl, rd0⟩ := IsD.at hp (i := i) (p := tmP u) (by rw [List.getElem?_map, hu]; rfl)
    have rd := readN_ext sg.e rd0
    obtain ⟨rda, rdb⟩ := rd1 rd
    have k79 := fun H => call79 H u.2 1 hcu (by decide)
    rw [Int.mul_one] at k79
    have k78 := fun H (m : Sm2 H sx st (putAll (Q.take i) M0) (n0 + i) cM) => call78m H sx st u.1 u.2 _ (n0 + i) cM m (by omega) (by simp only [cM]; omega) (by simp only [cM] at hcu; omega) hcu
    rw [← putAll_snoc hu] at k78
    rw [tms_len] at ls c3 sg ⊢
    repeat' (first | refine w_seq ?_ | refine w_seqN ?_ | refine w_blk ?_ | refine w_blkN ?_ | refine w_skip ?_ | refine w_ops ?_ | refine w_opsD ?_ | refine d_one ?_ | refine d_nil ?_ | ((refine i_cond ?_); refine w_condT rfl ?_) | ((refine i_nil ?_); first | refine d_same ?_ | refine d_ord ?_ | refine d_ext (by assumption) ?_ | refine w_end5 rfl rfl rfl rfl rfl ?_ | refine w_end6 rfl rfl rfl rfl rfl rfl ?_) | ((refine i_cons ?_); first | refine k_fldA rfl ?_ | refine k_ldC0 rfl c3 ?_ | refine k_len rfl ls ?_ | refine k_idxA (esz := 2) rfl rfl (by omega) ?_ | refine k_ld rfl rda ?_ | refine k_ld rfl rdb ?_ | (refine k_call rfl (k79 h) ?_; rintro r h1 ⟨e1, rfl⟩; have m1 := sm.ext e1) | (refine k_call rfl (k78 h1 m1) ?_; rintro r h2 ⟨e2, s1, s2, rfl, m2⟩) | refine k_mv rfl ?_ | refine k_add rfl rfl (by omega) ?_ | refine k_lssT rfl rfl (by omega) ?_ | refine k_ok rfl rfl ?_))
    exact w_roundIN (j := Q.length - (i + 1)) (by omega) ⟨i + 1, s1, s2, by omega, rfl, (sg.ext e1).ext e2, m2, rfl⟩
  · have : i = Q.length := by omega
    subst this
    rw [List.take_length] at sm
    repeat' (first | refine w_seq ?_ | refine w_seqN ?_ | refine w_seqX ?_ | refine w_exit ?_ | refine w_ops ?_ | ((refine i_cond ?_); refine w_condF rfl ?_) | ((refine i_nil ?_); refine w_end6 rfl rfl rfl rfl rfl rfl ?_) | ((refine i_cons ?_); first | refine k_fldA rfl ?_ | refine k_ldC0 rfl c3 ?_ | refine k_len rfl ls ?_ | refine k_mv rfl ?_ | refine k_lssF rfl rfl (by omega) ?_))
    exact w_roundIX ⟨rfl, sx, st, _, _, _, sg, sm, rfl⟩
noncomputable def addR (p q : Pol) : Pol := if p.big = true ∨ q.big = true then bigP else colP (putAll q.ts (putAll p.ts []))
/-- Add. -/
theorem call47o (h0 : Heap) (s t : SV) (p q : Pol) (hp : IsD h0 s (tms p.ts)) (hq : IsD h0 t (tms q.ts)) (hcp : ∀ t ∈ p.ts, t.2.natAbs ≤ cM) (hcq : ∀ t ∈ q.ts, t.2.natAbs ≤ cM) (hnp : p.ts.length ≤ 1000) (hnq : q.ts.length ≤ 1000) :
    ∃ r h', Cal FT HKt 47 [.agg [s, .bool p.big], .agg [t, .bool q.big]] h0 r h' ∧ Ext h0 h' ∧ IsRfO h0 h' r (addR p q) := by
  refine Cal.of (F := a47) rfl rfl rfl ?_
  obtain ⟨bp, P⟩ := p
  obtain ⟨bq, Q⟩ := q
  simp only at *
  cases bp with
  | true =>
    have e : addR ⟨true, P⟩ ⟨bq, Q⟩ = bigP := by unfold addR; rw [if_pos (.inl rfl)]
    rw [e]
    repeat' (first | refine w_seq ?_ | refine w_seqN ?_ | refine w_seqR ?_ | refine w_ret ?_ | refine w_ops ?_ | ((refine i_cond ?_); refine w_condT rfl ?_) | ((refine i_nil ?_); first | refine w_end1 rfl ?_ | refine w_end3 rfl rfl rfl ?_ | refine w_end4 rfl rfl rfl rfl ?_) | ((refine i_cons ?_); first | (have z := e2; refine k_newC ?_; intro h3 e3 c4; have d2 := (c2.ext e2).ext e3) | (have z := e1; refine k_boxC rfl ?_; intro h2 e2 c3) | (refine k_boxC rfl ?_; intro h1 e1 c2) | refine k_fldA rfl ?_ | refine k_ldC1 rfl d2 ?_ | refine k_bld rfl rfl ?_ | (refine k_stC rfl rfl c4 ?_; intro h5 w5) | refine k_skip rfl ?_ | refine k_mv rfl ?_ | refine k_pickT rfl rfl ?_))
    exact ⟨.inr rfl, oK_cell rfl w5.cel.read ⟨w5.ext (e1.trans (e2.trans e3)) (Nat.le_trans e1.len e2.len), .nilS, rfl, .inl ⟨rfl, rfl⟩⟩⟩
  | false =>
  cases bq with
  | true =>
    have e : addR ⟨false, P⟩ ⟨true, Q⟩ = bigP := by unfold addR; rw [if_pos (.inr rfl)]
    rw [e]
    repeat' (first | refine w_seq ?_ | refine w_seqN ?_ | refine w_seqR ?_ | refine w_ret ?_ | refine w_ops ?_ | ((refine i_cond ?_); refine w_condT rfl ?_) | ((refine i_nil ?_); first | refine w_end1 rfl ?_ | refine w_end3 rfl rfl rfl ?_ | refine w_end4 rfl rfl rfl rfl ?_) | ((refine i_cons ?_); first | (have z := e2; refine k_newC ?_; intro h3 e3 c4; have d2 := (c2.ext e2).ext e3; have d3 := c3.ext e3) | (have z := e1; refine k_boxC rfl ?_; intro h2 e2 c3) | (refine k_boxC rfl ?_; intro h1 e1 c2) | refine k_fldA rfl ?_ | refine k_ldC1 rfl d2 ?_ | refine k_ldC1 rfl d3 ?_ | refine k_bld rfl rfl ?_ | (refine k_stC rfl rfl c4 ?_; intro h5 w5) | refine k_want rfl ?_ | refine k_mv rfl ?_ | refine k_pickF rfl rfl ?_))
    exact ⟨.inr rfl, oK_cell rfl w5.cel.read ⟨w5.ext (e1.trans (e2.trans e3)) (Nat.le_trans e1.len e2.len), .nilS, rfl, .inl ⟨rfl, rfl⟩⟩⟩
  | false =>
  have e : addR ⟨false, P⟩ ⟨false, Q⟩ = colP (putAll Q (putAll P [])) := by unfold addR; rw [if_neg (by simp)]
  rw [e]
  repeat' (first | refine w_seq ?_ | refine w_seqN ?_ | refine w_blk ?_ | refine w_skip ?_ | refine w_ops ?_ | ((refine i_cond ?_); refine w_condF rfl ?_) | ((refine i_nil ?_); first | refine w_end3 rfl rfl rfl ?_ | refine w_end4 rfl rfl rfl rfl ?_ | refine w_end5 rfl rfl rfl rfl rfl ?_ | refine w_end6 rfl rfl rfl rfl rfl rfl ?_) | ((refine i_cons ?_); first | (have z := e2; refine k_newC ?_; intro h3 e3 c4; have d2 := (c2.ext e2).ext e3; have d3 := c3.ext e3) | (have z := e1; refine k_boxC rfl ?_; intro h2 e2 c3) | (refine k_boxC rfl ?_; intro h1 e1 c2) | refine k_fldA rfl ?_ | refine k_ldC1 rfl d2 ?_ | refine k_ldC1 rfl d3 ?_ | refine k_want rfl ?_ | refine k_mv rfl ?_ | refine k_pickF rfl rfl ?_))
  have x3 := e1.trans (e2.trans e3)
  refine w_loopI (I47a h0 h0.length h1.length h2.length s t false false P) P.length (R47a h0 h0.length h1.length h2.length s t false false P) ⟨0, .nilS, .nilS, Nat.zero_le _, rfl, ⟨x3, d2, d3, c4⟩, ⟨.inl ⟨rfl, rfl, rfl⟩, IsD.nil _, by simp [putAll], by simp [putAll]⟩, rfl⟩ (round47a h0 h0.length h1.length h2.length s t false false P hp hcp hnp) ?_
  rintro ex E' h4 ⟨rfl, sx, st, a, b, sg, sm, rfl⟩
  repeat' (first | refine w_seq ?_ | refine w_seqN ?_ | refine w_blk ?_ | refine w_blkX ?_ | refine w_ops ?_ | ((refine i_nil ?_); refine w_end5 rfl rfl rfl rfl rfl ?_) | ((refine i_cons ?_); refine k_mv rfl ?_))
  refine w_loopI (I47b h0 h1.length h2.length t false Q (putAll P []) P.length) Q.length (R47b h0 h1.length h2.length t false Q (putAll P []) P.length) ⟨0, sx, st, Nat.zero_le _, rfl, ⟨sg.e, sg.c3, sg.c4⟩, sm, rfl⟩ (round47b h0 h1.length h2.length t false Q (putAll P []) P.length hnp hq hcq hnq) ?_
  rintro ex E' h5 ⟨rfl, sx', st', a', b', c', sg', sm', rfl⟩
  have k80 := fun H (x : IsInts H sx' ((putAll Q (putAll P [])).map (·.1))) (y : IsD H st' ((putAll Q (putAll P [])).map wp)) => call80o H sx' st' _ x y (by have := sm'.len; omega)
  repeat' (first | refine w_seq ?_ | refine w_seqN ?_ | refine w_blkX ?_ | refine w_ret ?_ | refine w_ops ?_ | ((refine i_nil ?_); refine w_end1 rfl ?_) | ((refine i_cons ?_); first | (refine k_call rfl (k80 h5 sm'.x sm'.t) ?_; rintro r h6 ⟨e6, ss, rfl, ds⟩; have c46 := sg'.c4.ext e6) | (refine k_stC rfl rfl c46 ?_; intro h7 w7) | refine k_mv rfl ?_))
  exact ⟨.inr rfl, oK_cell rfl w7.cel.read ⟨w7.ext (sg'.e.trans e6) (Nat.le_trans e1.len e2.len), ss, rfl, (ds.weaken sg'.e.len).wrC w7⟩⟩
theorem call47 (h0 : Heap) (s t : SV) (p q : Pol) (hp : IsD h0 s (tms p.ts)) (hq : IsD h0 t (tms q.ts)) (hcp : ∀ t ∈ p.ts, t.2.natAbs ≤ cM) (hcq : ∀ t ∈ q.ts, t.2.natAbs ≤ cM) (hnp : p.ts.length ≤ 1000) (hnq : q.ts.length ≤ 1000) :
    ∃ r h', Cal FT HKt 47 [.agg [s, .bool p.big], .agg [t, .bool q.big]] h0 r h' ∧ Ext h0 h' ∧ IsRf h' r (addR p q) := by
  obtain ⟨r, h', a, b, z, c, d⟩ := call47o h0 s t p q hp hq hcp hcq hnp hnq
  exact ⟨r, h', a, b, z, c, d.is⟩
end Go.Proofs.YtlnjddjobbhcaaaDoor
