/- The reference's Mul, 49 (at most 32 products, each of at most 2^99). -/
import Derived.Test.YtofknpknogfijaaGreatDoorEX8
import Derived.Test.YtofknpknogfijaaGreatDoorPM
namespace Go.Proofs.YtofknpknogfijaaGreatDoor
open Go.Ab
set_option linter.unusedVariables false
set_option linter.unusedSimpArgs false
set_option maxRecDepth 20000
set_option maxHeartbeats 4000000
attribute [local irreducible] wOps wA wSeq wBlk wRound wRoundI wOpsD wOpsS
set_option linter.unusedSectionVars false
variable [HB]

def mt (a b : Tm) : Tm := (a.1 + b.1, a.2 * b.2)
abbrev bM : Nat := 633825300114114700748351602688
def mulAll (P Q M : List Tm) : List Tm := P.foldl (fun M a => putAll (Q.map (mt a)) M) M
theorem mulAll_snoc {P Q M : List Tm} {a : Tm} {i : Nat} (h : P[i]? = some a) : mulAll (P.take (i + 1)) Q M = putAll (Q.map (mt a)) (mulAll (P.take i) Q M) := by
  unfold mulAll
  rw [List.take_add_one, h, List.foldl_append]
  rfl
def I46b (h0 : Heap) (q2 q3 q4 : Nat) (s t : SV) (bp bq : Bool) (Q : List Tm) (a : Tm) (M0 : List Tm) (n0 i : Nat) (k : Nat) (E : Env) (h : Heap) : Prop := ∃ (j : Nat) (sx st : SV), j ≤ Q.length ∧ k = Q.length - j ∧ St49 h0 h q2 q3 q4 s t bp bq ∧ Sm2 h sx st (putAll ((Q.map (mt a)).take j) M0) (n0 + j) bM ∧
  E.keep [2, 3, 4, 5, 6, 7, 8] = [(2, some (.sc (.ptr q2 0))), (3, some (.sc (.ptr q3 0))), (4, some (.sc (.ptr q4 0))), (5, some (.sc sx)), (6, some (.sc st)), (7, some (.sc (.int .i64 (i : Nat)))), (8, some (.sc (.int .i64 (j : Nat))))]
def R46b (h0 : Heap) (q2 q3 q4 : Nat) (s t : SV) (bp bq : Bool) (Q : List Tm) (a : Tm) (M0 : List Tm) (n0 i : Nat) (ex : Ex) (E : Env) (h : Heap) : Prop := ex = .ex 2 ∧ ∃ sx st b c, St49 h0 h q2 q3 q4 s t bp bq ∧ Sm2 h sx st (putAll (Q.map (mt a)) M0) (n0 + Q.length) bM ∧
  E = [(2, some (.sc (.ptr q2 0))), (3, some (.sc (.ptr q3 0))), (4, some (.sc (.ptr q4 0))), (5, some (.sc sx)), (6, some (.sc st)), (7, some (.sc (.int .i64 (i : Nat)))), (8, b), (27, c)]
theorem round46b (h0 : Heap) (q2 q3 q4 : Nat) (s t : SV) (bp bq : Bool) (P Q : List Tm) (hp : IsD h0 s (tms P)) (hq : IsD h0 t (tms Q)) (a : Tm) (i : Nat) (ha : P[i]? = some a) (hca : a.2.natAbs ≤ cM ∧ a.1.natAbs ≤ 1000000000) (hcq : ∀ t ∈ Q, t.2.natAbs ≤ cM ∧ t.1.natAbs ≤ 1000000000) (hprb : ∀ t ∈ Q, (a.2 * t.2).natAbs ≤ bM) (hnp : P.length ≤ 1000) (M0 : List Tm) (n0 : Nat) (hn : n0 + Q.length ≤ 32) (k : Nat) (E : Env) (h : Heap) (hI : I46b h0 q2 q3 q4 s t bp bq Q a M0 n0 i k E h) :
    wA FT HKt b46L1 (E.keep [2, 3, 4, 5, 6, 7, 8]) h (wRoundI (I46b h0 q2 q3 q4 s t bp bq Q a M0 n0 i) k (R46b h0 q2 q3 q4 s t bp bq Q a M0 n0 i)) := by
  obtain ⟨j, sx, st, hj, rfl, sg, sm, hE⟩ := hI
  rw [hE]
  have ls := hq.len
  rw [tms_len] at ls
  have c2 := sg.c2
  have c3 := sg.c3
  have hiP : i < P.length := (List.getElem?_eq_some_iff.1 ha).1
  by_cases hlt : j < Q.length
  · obtain ⟨u, hu⟩ : ∃ u, Q[j]? = some u := ⟨_, List.getElem?_eq_getElem hlt⟩
    have hcu := hcq u (List.mem_of_getElem? hu)
    obtain ⟨id, off, cap, rfl, rd0⟩ := IsD.at hp (i := i) (p := tmP a) (by rw [List.getElem?_map, ha]; rfl)
    obtain ⟨id2, off2, cap2, rfl, rd20⟩ := IsD.at hq (i := j) (p := tmP u) (by rw [List.getElem?_map, hu]; rfl)
    obtain ⟨rda, rdb⟩ := rd1 (readN_ext sg.e rd0)
    obtain ⟨rea, reb⟩ := rd1 (readN_ext sg.e rd20)
    have k79 := fun H => call81 H a.2 u.2 hca.1 hcu.1
    have hpr : (a.2 * u.2).natAbs ≤ bM := hprb u (List.mem_of_getElem? hu)
    have hum : (Q.map (mt a))[j]? = some (mt a u) := by rw [List.getElem?_map, hu]; rfl
    have k78 := fun H (m : Sm2 H sx st (putAll ((Q.map (mt a)).take j) M0) (n0 + j) bM) => call80m H sx st (a.1 + u.1) (a.2 * u.2) _ (n0 + j) bM m (by omega) (by simp only [bM]; omega) (by simp only [bM] at hpr; omega) hpr
    have hsn : putM (a.1 + u.1) (a.2 * u.2) (putAll ((Q.map (mt a)).take j) M0) = putAll ((Q.map (mt a)).take (j + 1)) M0 := (putAll_snoc hum).symm
    rw [hsn] at k78
    simp only [tms_len] at ls c3 c2 sg ⊢
    repeat' (first | refine w_seq ?_ | refine w_seqN ?_ | refine w_blk ?_ | refine w_blkN ?_ | refine w_skip ?_ | refine w_ops ?_ | refine w_opsD ?_ | refine d_one ?_ | refine d_nil ?_ | ((refine i_cond ?_); refine w_condT rfl ?_) | ((refine i_nil ?_); first | refine d_same ?_ | refine d_ord ?_ | refine d_ext (by assumption) ?_ | refine w_end7 rfl rfl rfl rfl rfl rfl rfl ?_ | refine w_end8 rfl rfl rfl rfl rfl rfl rfl rfl ?_) | ((refine i_cons ?_); first | refine k_fldA rfl ?_ | refine k_ldC0 rfl c2 ?_ | refine k_ldC0 rfl c3 ?_ | refine k_len rfl ls ?_ | refine k_idxA (esz := 2) rfl rfl (by omega) ?_ | refine k_ld rfl rda ?_ | refine k_ld rfl rdb ?_ | refine k_ld rfl rea ?_ | refine k_ld rfl reb ?_ | (refine k_call rfl (k79 h) ?_; rintro r h1 ⟨e1, rfl⟩; have m1 := sm.ext e1) | (refine k_call rfl (k78 h1 m1) ?_; rintro r h2 ⟨e2, s1, s2, rfl, m2⟩) | refine k_mv rfl ?_ | refine k_add rfl rfl (by omega) ?_ | refine k_lssT rfl rfl (by omega) ?_ | refine k_ok rfl rfl ?_))
    exact w_roundIN (j := Q.length - (j + 1)) (by omega) ⟨j + 1, s1, s2, by omega, rfl, (sg.ext e1).ext e2, m2, rfl⟩
  · have : j = Q.length := by omega
    subst this
    rw [List.take_of_length_le (by simp)] at sm
    repeat' (first | refine w_seq ?_ | refine w_seqN ?_ | refine w_seqX ?_ | refine w_exit ?_ | refine w_ops ?_ | ((refine i_cond ?_); refine w_condF rfl ?_) | ((refine i_nil ?_); refine w_end8 rfl rfl rfl rfl rfl rfl rfl rfl ?_) | ((refine i_cons ?_); first | refine k_fldA rfl ?_ | refine k_ldC0 rfl c3 ?_ | refine k_len rfl ls ?_ | refine k_mv rfl ?_ | refine k_lssF rfl rfl (by omega) ?_))
    exact w_roundIX ⟨rfl, sx, st, _, _, sg, sm, rfl⟩
def I46a (h0 : Heap) (q2 q3 q4 : Nat) (s t : SV) (bp bq : Bool) (P Q : List Tm) (k : Nat) (E : Env) (h : Heap) : Prop := ∃ (i : Nat) (sx st : SV), i ≤ P.length ∧ k = P.length - i ∧ St49 h0 h q2 q3 q4 s t bp bq ∧ Sm2 h sx st (mulAll (P.take i) Q []) (i * Q.length) bM ∧
  E.keep [2, 3, 4, 5, 6, 7] = [(2, some (.sc (.ptr q2 0))), (3, some (.sc (.ptr q3 0))), (4, some (.sc (.ptr q4 0))), (5, some (.sc sx)), (6, some (.sc st)), (7, some (.sc (.int .i64 (i : Nat))))]
def R46a (h0 : Heap) (q2 q3 q4 : Nat) (s t : SV) (bp bq : Bool) (P Q : List Tm) (ex : Ex) (E : Env) (h : Heap) : Prop := ex = .ex 0 ∧ ∃ sx st a b c d, St49 h0 h q2 q3 q4 s t bp bq ∧ Sm2 h sx st (mulAll P Q []) (P.length * Q.length) bM ∧
  E = [(2, a), (3, b), (4, some (.sc (.ptr q4 0))), (5, some (.sc sx)), (6, some (.sc st)), (7, c), (20, d)]
theorem round46a (h0 : Heap) (q2 q3 q4 : Nat) (s t : SV) (bp bq : Bool) (P Q : List Tm) (hp : IsD h0 s (tms P)) (hq : IsD h0 t (tms Q)) (hcp : ∀ t ∈ P, t.2.natAbs ≤ cM ∧ t.1.natAbs ≤ 1000000000) (hcq : ∀ t ∈ Q, t.2.natAbs ≤ cM ∧ t.1.natAbs ≤ 1000000000) (hprb : ∀ a ∈ P, ∀ t ∈ Q, (a.2 * t.2).natAbs ≤ bM) (hnp : P.length ≤ 1000) (hn : P.length * Q.length ≤ 32) (k : Nat) (E : Env) (h : Heap) (hI : I46a h0 q2 q3 q4 s t bp bq P Q k E h) :
    wA FT HKt b46L0 (E.keep [2, 3, 4, 5, 6, 7]) h (wRoundI (I46a h0 q2 q3 q4 s t bp bq P Q) k (R46a h0 q2 q3 q4 s t bp bq P Q)) := by
  obtain ⟨i, sx, st, hi, rfl, sg, sm, hE⟩ := hI
  rw [hE]
  have ls := hp.len
  rw [tms_len] at ls
  have c2 := sg.c2
  by_cases hlt : i < P.length
  · obtain ⟨a, ha⟩ : ∃ a, P[i]? = some a := ⟨_, List.getElem?_eq_getElem hlt⟩
    have hn1 : i * Q.length + Q.length ≤ 32 := by
      rw [← Nat.succ_mul]
      exact Nat.le_trans (Nat.mul_le_mul_right _ hlt) hn
    repeat' (first | refine w_seq ?_ | refine w_seqN ?_ | refine w_blk ?_ | refine w_skip ?_ | refine w_ops ?_ | ((refine i_cond ?_); refine w_condT rfl ?_) | ((refine i_nil ?_); refine w_end7 rfl rfl rfl rfl rfl rfl rfl ?_) | ((refine i_cons ?_); first | refine k_fldA rfl ?_ | refine k_ldC0 rfl c2 ?_ | refine k_len rfl ls ?_ | refine k_mv rfl ?_ | refine k_lssT rfl rfl (by omega) ?_))
    refine w_loopI (I46b h0 q2 q3 q4 s t bp bq Q a (mulAll (P.take i) Q []) (i * Q.length) i) Q.length (R46b h0 q2 q3 q4 s t bp bq Q a (mulAll (P.take i) Q []) (i * Q.length) i) ⟨0, sx, st, Nat.zero_le _, rfl, sg, sm, rfl⟩ (round46b h0 q2 q3 q4 s t bp bq P Q hp hq a i ha (hcp a (List.mem_of_getElem? ha)) hcq (hprb a (List.mem_of_getElem? ha)) hnp _ _ hn1) ?_
    rintro ex E' h2 ⟨rfl, sx', st', b, c, sg', sm', rfl⟩
    rw [← mulAll_snoc ha, ← Nat.succ_mul] at sm'
    repeat' (first | refine w_seqN ?_ | refine w_blkN ?_ | refine w_blkX ?_ | refine w_ops ?_ | ((refine i_nil ?_); refine w_end6 rfl rfl rfl rfl rfl rfl ?_) | ((refine i_cons ?_); first | refine k_mv rfl ?_ | refine k_add rfl rfl (by omega) ?_))
    exact w_roundIN (j := P.length - (i + 1)) (by omega) ⟨i + 1, sx', st', by omega, rfl, sg', sm', rfl⟩
  · have : i = P.length := by omega
    subst this
    rw [List.take_length] at sm
    repeat' (first | refine w_seq ?_ | refine w_seqN ?_ | refine w_seqX ?_ | refine w_exit ?_ | refine w_ops ?_ | ((refine i_cond ?_); refine w_condF rfl ?_) | ((refine i_nil ?_); refine w_end7 rfl rfl rfl rfl rfl rfl rfl ?_) | ((refine i_cons ?_); first | refine k_fldA rfl ?_ | refine k_ldC0 rfl c2 ?_ | refine k_len rfl ls ?_ | refine k_mv rfl ?_ | refine k_lssF rfl rfl (by omega) ?_))
    exact w_roundIX ⟨rfl, sx, st, _, _, _, _, sg, sm, rfl⟩
/-- Mul, of polynomials that are not big. -/
theorem call46 (h0 : Heap) (s t : SV) (P Q : List Tm) (hp : IsD h0 s (tms P)) (hq : IsD h0 t (tms Q)) (hcp : ∀ t ∈ P, t.2.natAbs ≤ cM ∧ t.1.natAbs ≤ 1000000000) (hcq : ∀ t ∈ Q, t.2.natAbs ≤ cM ∧ t.1.natAbs ≤ 1000000000) (hprb : ∀ a ∈ P, ∀ t ∈ Q, (a.2 * t.2).natAbs ≤ bM) (hnp : P.length ≤ 1000) (hn : P.length * Q.length ≤ 32) :
    ∃ r h', Cal FT HKt 46 [.agg [s, .bool false], .agg [t, .bool false]] h0 r h' ∧ Ext h0 h' ∧ IsRf h' r (colP (mulAll P Q [])) := by
  refine Cal.of (F := a46) rfl rfl rfl ?_
  repeat' (first | refine w_seq ?_ | refine w_seqN ?_ | refine w_blk ?_ | refine w_skip ?_ | refine w_ops ?_ | ((refine i_cond ?_); refine w_condF rfl ?_) | ((refine i_nil ?_); first | refine w_end3 rfl rfl rfl ?_ | refine w_end4 rfl rfl rfl rfl ?_ | refine w_end5 rfl rfl rfl rfl rfl ?_ | refine w_end6 rfl rfl rfl rfl rfl rfl ?_) | ((refine i_cons ?_); first | (have z := e2; refine k_newC ?_; intro h3 e3 c4; have d2 := (c2.ext e2).ext e3; have d3 := c3.ext e3) | (have z := e1; refine k_boxC rfl ?_; intro h2 e2 c3) | (refine k_boxC rfl ?_; intro h1 e1 c2) | refine k_fldA rfl ?_ | refine k_ldC1 rfl d2 ?_ | refine k_ldC1 rfl d3 ?_ | refine k_want rfl ?_ | refine k_mv rfl ?_ | refine k_pickF rfl rfl ?_))
  have x3 := e1.trans (e2.trans e3)
  refine w_loopI (I46a h0 h0.length h1.length h2.length s t false false P Q) P.length (R46a h0 h0.length h1.length h2.length s t false false P Q) ⟨0, .nilS, .nilS, Nat.zero_le _, rfl, ⟨x3, d2, d3, c4⟩, ⟨.inl ⟨rfl, rfl, rfl⟩, IsD.nil _, by simp [mulAll], by simp [mulAll]⟩, rfl⟩ (round46a h0 h0.length h1.length h2.length s t false false P Q hp hq hcp hcq hprb hnp hn) ?_
  rintro ex E' h5 ⟨rfl, sx', st', a', b', c', d', sg', sm', rfl⟩
  have k80 := fun H (x : IsInts H sx' ((mulAll P Q []).map (·.1))) (y : IsD H st' ((mulAll P Q []).map wp)) => call82 H sx' st' _ x y (by have := sm'.len; omega)
  repeat' (first | refine w_seq ?_ | refine w_seqN ?_ | refine w_blkX ?_ | refine w_ret ?_ | refine w_ops ?_ | ((refine i_nil ?_); refine w_end1 rfl ?_) | ((refine i_cons ?_); first | (refine k_call rfl (k80 h5 sm'.x sm'.t) ?_; rintro r h6 ⟨e6, ss, rfl, ds⟩; have c46 := sg'.c4.ext e6) | (refine k_stC rfl rfl c46 ?_; intro h7 w7) | refine k_mv rfl ?_))
  exact ⟨.inr rfl, oK_cell rfl w7.cel.read ⟨w7.ext (sg'.e.trans e6) (Nat.le_trans e1.len e2.len), ss, rfl, ds.wrC w7⟩⟩
end Go.Proofs.YtofknpknogfijaaGreatDoor


namespace Go.Proofs.YtofknpknogfijaaGreatDoor
set_option linter.unusedVariables false
set_option linter.unusedSectionVars false
variable [HB]
theorem S_putM (g : Int → Int) (e v : Int) : ∀ M : List Tm, S g (putM e v M) = S g M + v * g e
  | [] => by simp [putM, S]
  | u :: r => by
    unfold putM
    split
    · simp only [S]; rw [S_putM g e v r]; omega
    split
    · rename_i h1 h2
      simp only [S]
      rw [h2, Int.add_mul]; omega
    · simp only [S]; omega
theorem S_putAll (g : Int → Int) : ∀ (L M : List Tm), S g (putAll L M) = S g M + S g L
  | [], M => by simp [putAll, S]
  | t :: L, M => by
    show S g (putAll L (putM t.1 t.2 M)) = _
    rw [S_putAll g L, S_putM]
    simp only [S]; omega
theorem S_mt (g : Int → Int) (a : Tm) : ∀ Q : List Tm, S g (Q.map (mt a)) = a.2 * S (fun b => g (a.1 + b)) Q
  | [] => by simp [S]
  | b :: Q => by
    simp only [List.map_cons, S, mt]
    rw [S_mt g a Q, Int.mul_add, Int.mul_assoc]
theorem S_mulAll (g : Int → Int) (Q : List Tm) : ∀ (P M : List Tm), S g (mulAll P Q M) = S g M + S2 g P Q
  | [], M => by simp [mulAll, S2, S]
  | a :: P, M => by
    show S g (mulAll P Q (putAll (Q.map (mt a)) M)) = _
    rw [S_mulAll g Q P, S_putAll, S_mt]
    simp only [S2, S]; omega
theorem S_nz (g : Int → Int) : ∀ M : List Tm, S g (M.filter nzT) = S g M
  | [] => rfl
  | u :: r => by
    rw [List.filter_cons]
    split
    · simp only [S]; rw [S_nz g r]
    · rename_i h
      have : u.2 = 0 := by simpa [nzT] using h
      simp only [S]; rw [S_nz g r, this]; omega
def Asc (l : List Tm) : Prop := l.Pairwise fun a b => a.1 < b.1
theorem putM_mem {e v : Int} : ∀ {M : List Tm} {u : Tm}, u ∈ putM e v M → u.1 = e ∨ ∃ w ∈ M, w.1 = u.1
  | [], u, h => by simp [putM] at h; subst h; exact .inl rfl
  | a :: r, u, h => by
    unfold putM at h
    split at h
    · rcases List.mem_cons.1 h with rfl | h
      · exact .inr ⟨_, .head _, rfl⟩
      · rcases putM_mem h with h | ⟨w, hw, e⟩
        · exact .inl h
        · exact .inr ⟨w, .tail _ hw, e⟩
    split at h
    · rcases List.mem_cons.1 h with rfl | h
      · exact .inl rfl
      · exact .inr ⟨u, .tail _ h, rfl⟩
    · rcases List.mem_cons.1 h with rfl | h
      · exact .inl rfl
      · exact .inr ⟨u, h, rfl⟩
theorem putM_asc {e v : Int} : ∀ {M : List Tm}, Asc M → Asc (putM e v M)
  | [], h => by simp [putM, Asc]
  | a :: r, h => by
    have h' := List.pairwise_cons.1 h
    unfold putM
    split
    · rename_i h1
      refine List.pairwise_cons.2 ⟨fun u hu => ?_, putM_asc h'.2⟩
      rcases putM_mem hu with h2 | ⟨w, hw, e2⟩
      · omega
      · have := h'.1 w hw; omega
    split
    · rename_i h1 h2
      exact List.pairwise_cons.2 ⟨fun u hu => by have := h'.1 u hu; simp only; omega, h'.2⟩
    · rename_i h1 h2
      refine List.pairwise_cons.2 ⟨fun u hu => ?_, h⟩
      rcases List.mem_cons.1 hu with rfl | hu
      · simp only; omega
      · have := h'.1 u hu; simp only; omega
theorem putAll_asc : ∀ {L M : List Tm}, Asc M → Asc (putAll L M)
  | [], M, h => h
  | t :: L, M, h => putAll_asc (L := L) (putM_asc h)
theorem mulAll_asc {Q : List Tm} : ∀ {P M : List Tm}, Asc M → Asc (mulAll P Q M)
  | [], M, h => h
  | a :: P, M, h => mulAll_asc (P := P) (putAll_asc h)
theorem Asc.can {M : List Tm} (h : Asc M) : Can (M.filter nzT) := ⟨List.Pairwise.filter _ h, fun t ht => by simpa [nzT] using (List.mem_filter.1 ht).2⟩
/-- The reference's polynomial of sums: it is big, or it says what the sums say. -/
theorem colP_spec {M : List Tm} (h : Asc M) : colP M = bigP ∨ (colP M).big = false ∧ Pok (colP M) ∧ (∀ g, S g (colP M).ts = S g M) := by
  unfold colP
  split
  · rename_i ha
    refine .inr ⟨rfl, ⟨by simp, h.can, fun t ht => ?_, fun t ht => ?_⟩, fun g => S_nz g M⟩
    · have h2 := List.mem_filter.1 ht
      exact (ha t h2.1 (by simpa [nzT] using h2.2)).1
    · have h2 := List.mem_filter.1 ht
      exact (ha t h2.1 (by simpa [nzT] using h2.2)).2
  · exact .inl rfl
end Go.Proofs.YtofknpknogfijaaGreatDoor

