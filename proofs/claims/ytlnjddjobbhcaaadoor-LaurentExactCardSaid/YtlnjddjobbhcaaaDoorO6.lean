/- The reference's Equal; Plain: contracts. -/
import Derived.Test.YtlnjddjobbhcaaaDoorO3
import Derived.Test.YtlnjddjobbhcaaaDoorC3
namespace Go.Proofs.YtlnjddjobbhcaaaDoor
open Go.Ab
set_option linter.unusedVariables false
set_option linter.unusedSimpArgs false
set_option maxRecDepth 20000
set_option maxHeartbeats 4000000
attribute [local irreducible] wOps wA wSeq wBlk wRound wRoundI wOpsD wOpsS

def I50 (h0 : Heap) (q2 q3 : Nat) (a b : List Tm) (E : Env) (h : Heap) : Prop := h = h0 ∧ ∃ i : Nat, i ≤ a.length ∧ a.take i = b.take i ∧
  E.keep [2, 3, 5] = [(2, some (.sc (.ptr q2 0))), (3, some (.sc (.ptr q3 0))), (5, some (.sc (.int .i64 (i : Nat))))]
def R50 (h0 : Heap) (a b : List Tm) (ex : Ex) (E : Env) (h : Heap) : Prop := h = h0 ∧ ((ex = .ex 0 ∧ a = b) ∨ (ex = .rt ∧ a ≠ b ∧ E = [(4, some (.sc (.bool false)))]))
theorem round50 (h0 : Heap) (q2 q3 : Nat) (x0 y0 : Bool) (s t : SV) (a b : List Tm) (hs : IsD h0 s (tms a)) (ht : IsD h0 t (tms b)) (c2 : Cel h0 q2 s (.bool x0)) (c3 : Cel h0 q3 t (.bool y0)) (hl : a.length = b.length) (hn : a.length ≤ 3000000) (E : Env) (h : Heap) (hI : I50 h0 q2 q3 a b E h) :
    wA FT HKt b50L0 (E.keep [2, 3, 5]) h (wRound (I50 h0 q2 q3 a b) (cK [2, 3, 5] a.length 5) (cK [2, 3, 5] a.length 5 E h) (R50 h0 a b)) := by
  obtain ⟨rfl, i, hi, he, hE⟩ := hI
  have hm : cK [2, 3, 5] a.length 5 E h = a.length - i := by unfold cK; rw [hE]; rfl
  rw [hm, hE]
  have ls := hs.len
  rw [tms_len] at ls
  by_cases hlt : i < a.length
  · obtain ⟨x, hx⟩ : ∃ x, a[i]? = some x := ⟨_, List.getElem?_eq_getElem hlt⟩
    obtain ⟨y, hy⟩ : ∃ y, b[i]? = some y := ⟨_, List.getElem?_eq_getElem (by omega)⟩
    obtain ⟨id1, o1, k1, e1, r1⟩ := hs.at (i := i) (p := tmP x) (by simp [hx])
    obtain ⟨id2, o2, k2, e2, r2⟩ := ht.at (i := i) (p := tmP y) (by simp [hy])
    rw [tms_len] at e1 e2
    subst e1 e2
    have b0 : (0 : Int) ≤ (i : Nat) ∧ ((i : Nat) : Int) < (b.length : Nat) := by omega
    by_cases hxy : x = y
    · subst hxy
      have e3 : (x.1 == x.1 && x.2 == x.2) = true := by simp
      repeat' (first | refine w_seq ?_ | refine w_seqN ?_ | refine w_blk ?_ | refine w_blkN ?_ | refine w_skip ?_ | refine w_ops ?_ | refine w_opsD ?_ | refine d_one ?_ | refine d_nil ?_ | ((refine i_cond ?_); first | refine w_condT rfl ?_ | refine w_condF rfl ?_) | ((refine i_nil ?_); first | refine d_same ?_ | refine w_end3 rfl rfl rfl ?_ | refine w_end4 rfl rfl rfl rfl ?_) | ((refine i_cons ?_); first | refine k_fldA rfl ?_ | refine k_ldC0 rfl c2 ?_ | refine k_ldC0 rfl c3 ?_ | refine k_len rfl ls ?_ | refine k_idxA (esz := 2) rfl rfl (by omega) ?_ | refine k_ldD rfl r1 ?_ | refine k_ldD rfl r2 ?_ | (refine k_seq2 rfl rfl ?_; rw [e3]) | refine k_mv rfl ?_ | refine k_add rfl rfl (by omega) ?_ | refine k_lssT rfl rfl (by omega) ?_))
      refine w_roundN ⟨rfl, i + 1, by omega, ?_, rfl⟩ (by simp [cK, Env.keep, Env.get]; omega)
      rw [List.take_add_one, List.take_add_one, he, hx, hy]
    · have e3 : (x.1 == y.1 && x.2 == y.2) = false := by
        rw [Bool.and_eq_false_iff]
        by_cases h1 : x.1 = y.1
        · exact .inr (by simpa using fun h2 => hxy (Prod.ext h1 h2))
        · exact .inl (by simpa using h1)
      repeat' (first | refine w_seq ?_ | refine w_seqN ?_ | refine w_seqR ?_ | refine w_blk ?_ | refine w_blkR ?_ | refine w_skip ?_ | refine w_ret ?_ | refine w_ops ?_ | refine w_opsD ?_ | refine d_one ?_ | refine d_nil ?_ | ((refine i_cond ?_); refine w_condT rfl ?_) | ((refine i_nil ?_); first | refine d_same ?_ | refine w_end1 rfl ?_ | refine w_end4 rfl rfl rfl rfl ?_) | ((refine i_cons ?_); first | refine k_fldA rfl ?_ | refine k_ldC0 rfl c2 ?_ | refine k_ldC0 rfl c3 ?_ | refine k_len rfl ls ?_ | refine k_idxA (esz := 2) rfl rfl (by omega) ?_ | refine k_ldD rfl r1 ?_ | refine k_ldD rfl r2 ?_ | (refine k_seq2 rfl rfl ?_; rw [e3]) | refine k_mv rfl ?_ | refine k_lssT rfl rfl (by omega) ?_))
      exact w_roundR ⟨rfl, .inr ⟨rfl, fun h => hxy (by rw [h, hy] at hx; exact (Option.some.inj hx).symm), rfl⟩⟩
  · have : i = a.length := by omega
    subst this
    repeat' (first | refine w_seq ?_ | refine w_seqN ?_ | refine w_seqX ?_ | refine w_exit ?_ | refine w_ops ?_ | ((refine i_cond ?_); refine w_condF rfl ?_) | ((refine i_nil ?_); refine w_end4 rfl rfl rfl rfl ?_) | ((refine i_cons ?_); first | refine k_fldA rfl ?_ | refine k_ldC0 rfl c2 ?_ | refine k_len rfl ls ?_ | refine k_mv rfl ?_ | refine k_lssF rfl rfl (by omega) ?_))
    rw [List.take_length, hl, List.take_length] at he
    exact w_roundX ⟨rfl, .inl ⟨rfl, he⟩⟩
/-- Two polynomials are equal, by the reference. -/
theorem call50 (h0 : Heap) (s t : SV) (p q : Pol) (hs : IsD h0 s (tms p.ts)) (ht : IsD h0 t (tms q.ts)) (kp : p.big = true → p.ts = []) (kq : q.big = true → q.ts = []) (hn : p.ts.length ≤ 3000000) (hn2 : q.ts.length ≤ 3000000) :
    ∃ r h', Cal FT HKt 50 [.agg [s, .bool p.big], .agg [t, .bool q.big]] h0 r h' ∧ Ext h0 h' ∧ r = .sc (.bool (decide (p = q))) := by
  refine Cal.of (F := a50) rfl rfl rfl ?_
  have ls := hs.len
  have lt := ht.len
  rw [tms_len] at ls lt
  obtain ⟨pb, pt⟩ := p
  obtain ⟨qb, qt⟩ := q
  simp only at *
  cases pb with
  | true =>
    have e1 : pt = [] := kp rfl
    subst e1
    cases qb with
    | true =>
      have e2 : qt = [] := kq rfl
      subst e2
      repeat' (first | refine w_seq ?_ | refine w_seqN ?_ | refine w_seqR ?_ | refine w_ret ?_ | refine w_ops ?_ | ((refine i_cond ?_); refine w_condT rfl ?_) | ((refine i_nil ?_); first | refine w_end1 rfl ?_ | refine w_end2 rfl rfl ?_ | refine w_end3 rfl rfl rfl ?_) | ((refine i_cons ?_); first | (have z := e1; refine k_boxC rfl ?_; intro h2 e2 c2; have d1 := c1.ext e2) | (refine k_boxC rfl ?_; intro h1 e1 c1) | refine k_fldA rfl ?_ | refine k_ldC1 rfl d1 ?_ | refine k_ldC1 rfl c2 ?_ | refine k_skip rfl ?_ | refine k_want rfl ?_ | refine k_mv rfl ?_ | refine k_pickT rfl rfl ?_))
      exact ⟨.inr rfl, e1.trans e2, by simp; rfl⟩
    | false =>
      repeat' (first | refine w_seq ?_ | refine w_seqN ?_ | refine w_seqR ?_ | refine w_ret ?_ | refine w_ops ?_ | ((refine i_cond ?_); refine w_condT rfl ?_) | ((refine i_nil ?_); first | refine w_end1 rfl ?_ | refine w_end2 rfl rfl ?_ | refine w_end3 rfl rfl rfl ?_) | ((refine i_cons ?_); first | (have z := e1; refine k_boxC rfl ?_; intro h2 e2 c2; have d1 := c1.ext e2) | (refine k_boxC rfl ?_; intro h1 e1 c1) | refine k_fldA rfl ?_ | refine k_ldC1 rfl d1 ?_ | refine k_ldC1 rfl c2 ?_ | refine k_skip rfl ?_ | refine k_want rfl ?_ | refine k_mv rfl ?_ | refine k_pickT rfl rfl ?_))
      exact ⟨.inr rfl, e1.trans e2, by simp; rfl⟩
  | false =>
    cases qb with
    | true =>
      repeat' (first | refine w_seq ?_ | refine w_seqN ?_ | refine w_seqR ?_ | refine w_ret ?_ | refine w_ops ?_ | ((refine i_cond ?_); refine w_condT rfl ?_) | ((refine i_nil ?_); first | refine w_end1 rfl ?_ | refine w_end2 rfl rfl ?_ | refine w_end3 rfl rfl rfl ?_) | ((refine i_cons ?_); first | (have z := e1; refine k_boxC rfl ?_; intro h2 e2 c2; have d1 := c1.ext e2) | (refine k_boxC rfl ?_; intro h1 e1 c1) | refine k_fldA rfl ?_ | refine k_ldC1 rfl d1 ?_ | refine k_ldC1 rfl c2 ?_ | refine k_skip rfl ?_ | refine k_want rfl ?_ | refine k_mv rfl ?_ | refine k_pickF rfl rfl ?_))
      exact ⟨.inr rfl, e1.trans e2, by simp; rfl⟩
    | false =>
      by_cases hl : pt.length = qt.length
      · repeat' (first | refine w_seq ?_ | refine w_seqN ?_ | refine w_blk ?_ | refine w_skip ?_ | refine w_ops ?_ | ((refine i_cond ?_); refine w_condF rfl ?_) | ((refine i_nil ?_); first | refine w_end2 rfl rfl ?_ | refine w_end3 rfl rfl rfl ?_) | ((refine i_cons ?_); first | (have z := e1; refine k_boxC rfl ?_; intro h2 e2 c2; have d1 := c1.ext e2) | (refine k_boxC rfl ?_; intro h1 e1 c1) | refine k_fldA rfl ?_ | refine k_ldC1 rfl d1 ?_ | refine k_ldC1 rfl c2 ?_ | refine k_ldC0 rfl d1 ?_ | refine k_ldC0 rfl c2 ?_ | refine k_len rfl ls ?_ | refine k_len rfl lt ?_ | refine k_want rfl ?_ | refine k_mv rfl ?_ | refine k_pickF rfl rfl ?_ | refine k_neqF rfl rfl (by omega) ?_))
        refine w_loop (I50 h2 h0.length h1.length pt qt) (cK [2, 3, 5] pt.length 5) (R50 h2 pt qt) ⟨rfl, 0, Nat.zero_le _, rfl, rfl⟩ (round50 h2 h0.length h1.length false false s t pt qt (hs.ext (e1.trans e2)) (ht.ext (e1.trans e2)) d1 c2 hl hn) ?_
        rintro ex E' h3 ⟨rfl, ⟨rfl, rfl⟩ | ⟨rfl, hne, rfl⟩⟩
        · repeat' (first | refine w_seq ?_ | refine w_seqN ?_ | refine w_blkX ?_ | refine w_ret ?_ | refine w_ops ?_ | ((refine i_nil ?_); refine w_end1 rfl ?_) | ((refine i_cons ?_); refine k_mv rfl ?_))
          exact ⟨.inr rfl, e1.trans e2, by simp; rfl⟩
        · repeat' (first | refine w_seqR ?_ | refine w_blkR ?_)
          exact ⟨.inr rfl, e1.trans e2, by simp [hne]; rfl⟩
      · have hne : pt ≠ qt := fun h => hl (by rw [h])
        repeat' (first | refine w_seq ?_ | refine w_seqN ?_ | refine w_seqR ?_ | refine w_skip ?_ | refine w_ret ?_ | refine w_ops ?_ | ((refine i_cond ?_); first | refine w_condT rfl ?_ | refine w_condF rfl ?_) | ((refine i_nil ?_); first | refine w_end1 rfl ?_ | refine w_end2 rfl rfl ?_ | refine w_end3 rfl rfl rfl ?_) | ((refine i_cons ?_); first | (have z := e1; refine k_boxC rfl ?_; intro h2 e2 c2; have d1 := c1.ext e2) | (refine k_boxC rfl ?_; intro h1 e1 c1) | refine k_fldA rfl ?_ | refine k_ldC1 rfl d1 ?_ | refine k_ldC1 rfl c2 ?_ | refine k_ldC0 rfl d1 ?_ | refine k_ldC0 rfl c2 ?_ | refine k_len rfl ls ?_ | refine k_len rfl lt ?_ | refine k_want rfl ?_ | refine k_mv rfl ?_ | refine k_pickF rfl rfl ?_ | refine k_neqT rfl rfl (by omega) ?_))
        exact ⟨.inr rfl, e1.trans e2, by simp [hne]; rfl⟩
/-! ### Plain -/
/-- While Plain runs. -/
structure St51 (h0 h : Heap) (q2 q3 : Nat) (b : Bool) (s : SV) (r : List Tm) : Prop where
  e : Ext h0 h
  c2 : Cel h q2 .nilS (.bool false)
  c3 : Cel h q3 s (.bool b)
  o : OwnD h0 h s (tms r)
  l : h0.length ≤ q2 ∧ q2 < q3
/-- The exponents from a on: what Plain has taken. -/
def I51 (h0 : Heap) (q1 q2 q3 : Nat) (b : Bool) (ts : List Tm) (lo : Int) (n : Nat) (E : Env) (h : Heap) : Prop := ∃ (i : Nat) (s : SV), i ≤ n ∧ St51 h0 h q2 q3 b s (fromC (cf ts) lo i) ∧
  E.keep [1, 2, 3, 4] = [(1, some (.sc (.ptr q1 0))), (2, some (.sc (.ptr q2 0))), (3, some (.sc (.ptr q3 0))), (4, some (.sc (.int .i64 (lo + i))))]
def R51 (h0 : Heap) (q1 q2 q3 : Nat) (b : Bool) (ts : List Tm) (lo : Int) (n : Nat) (ex : Ex) (E : Env) (h : Heap) : Prop := ex = .ex 0 ∧ ∃ s a c d, St51 h0 h q2 q3 b s (fromC (cf ts) lo n) ∧
  E = [(1, a), (2, some (.sc (.ptr q2 0))), (3, some (.sc (.ptr q3 0))), (4, c), (16, d)]
def cK51 (lo : Int) (n : Nat) (E : Env) (_ : Heap) : Nat := match (E.keep [1, 2, 3, 4]).get 4 with
  | some (.sc (.int _ i)) => n - (i - lo).toNat
  | _ => 0
theorem round51 (h0 : Heap) (q1 q2 q3 : Nat) (b : Bool) (u : SV) (ts : List Tm) (hs : IsD h0 u (tms ts)) (hc : Can ts) (hl : ts.length ≤ 300000) (c1 : Cel h0 q1 (.bool b) u) (lo : Int) (n : Nat) (hlo : -300 ≤ lo) (hb1 : hi0 ts ≤ 1048576 ∧ -1048576 ≤ hi0 ts) (hnn : n ≤ 601) (hn : lo + n = min (hi0 ts) 300 + 1) (E : Env) (h : Heap) (hI : I51 h0 q1 q2 q3 b ts lo n E h) :
    wA FT HKt b51L0 (E.keep [1, 2, 3, 4]) h (wRound (I51 h0 q1 q2 q3 b ts lo n) (cK51 lo n) (cK51 lo n E h) (R51 h0 q1 q2 q3 b ts lo n)) := by
  obtain ⟨i, s, hi, st, hE⟩ := hI
  have hm : cK51 lo n E h = n - i := by unfold cK51; rw [hE]; show n - (lo + i - lo).toNat = _; omega
  rw [hm, hE]
  have d1 := c1.ext st.e
  have c3 := st.c3
  have k28 := call28 h b u ts (hs.ext st.e) (by omega)
  by_cases hlt : i < n
  · have k29 := fun H (e : Ext h H) => call29 H b u ts (lo + i) ((hs.ext st.e).ext e) hc (by omega)
    have en := fromC_succ (cf ts) lo i
    have hlen : (fromC (cf ts) lo i).length ≤ i := can_len (fromC_can _ _ _) fun t ht => ⟨(fromC_mem.1 ht).1, (fromC_mem.1 ht).2.1⟩
    by_cases hz : cf ts (lo + i) = 0
    · rw [put, if_pos hz, List.append_nil] at en
      rw [hz] at k29
      repeat' (first | refine w_seq ?_ | refine w_seqN ?_ | refine w_blk ?_ | refine w_blkN ?_ | refine w_skip ?_ | refine w_ops ?_ | ((refine i_cond ?_); first | refine w_condT rfl ?_ | refine w_condF rfl ?_) | ((refine i_nil ?_); first | refine w_end4 rfl rfl rfl rfl ?_ | refine w_end5 rfl rfl rfl rfl rfl ?_ | refine w_end6 rfl rfl rfl rfl rfl rfl ?_) | ((refine i_cons ?_); first | refine k_ldC rfl d1 ?_ | (refine k_call rfl k28 ?_; rintro r h1 ⟨e1, rfl⟩; have d2 := d1.ext e1) | refine k_min rfl rfl ?_ | refine k_ldC rfl d2 ?_ | (refine k_call rfl (k29 _ e1) ?_; rintro r h2 ⟨e2, rfl⟩) | refine k_mv rfl ?_ | refine k_add rfl rfl (by omega) ?_ | refine k_leqT rfl rfl (by omega) ?_ | refine k_neqF rfl rfl (by omega) ?_))
      have e3 := e1.trans e2
      exact w_roundN ⟨i + 1, s, by omega, ⟨st.e.trans e3, st.c2.ext e3, st.c3.ext e3, by rw [en]; exact st.o.ext e3, st.l⟩, by rw [show lo + ((i + 1 : Nat) : Int) = lo + i + 1 by omega]; rfl⟩ (by simp [cK51, Env.keep, Env.get]; omega)
    · rw [put, if_neg hz] at en
      repeat' (first | refine w_seq ?_ | refine w_seqN ?_ | refine w_blk ?_ | refine w_blkN ?_ | refine w_skip ?_ | refine w_ops ?_ | ((refine i_cond ?_); refine w_condT rfl ?_) | ((refine i_nil ?_); first | refine w_end4 rfl rfl rfl rfl ?_ | refine w_end5 rfl rfl rfl rfl rfl ?_ | refine w_end6 rfl rfl rfl rfl rfl rfl ?_) | ((refine i_cons ?_); first | refine k_ldC rfl d1 ?_ | (refine k_call rfl k28 ?_; rintro r h1 ⟨e1, rfl⟩; have d2 := d1.ext e1) | refine k_min rfl rfl ?_ | refine k_ldC rfl d2 ?_ | (refine k_call rfl (k29 _ e1) ?_; rintro r h2 ⟨e2, rfl⟩; have e3 := e1.trans e2; have c3 := c3.ext e3) | refine k_fldA rfl ?_ | refine k_ldC0 rfl c3 ?_ | (refine k_bld rfl rfl ?_) | (refine k_bslD rfl ?_; intro h8 e8 src8; have o8 := (st.o.ext e3).ext e8; have x8 := (st.e.trans e3).trans e8; have c8 := c3.ext e8; have b8 := (st.c2.ext e3).ext e8) | (refine k_appD1 x8 o8 rfl rfl src8 (by rw [tms_len]; simp only [bigN]; omega) ?_; intro s' h4 o2 e2 f2 l2; have d5 := c8.fram f2 (o8.cel c8); have d4 := b8.fram f2 (o8.cel b8)) | (refine k_stC0 rfl rfl d5 ?_; intro h3 w3) | refine k_mv rfl ?_ | refine k_add rfl rfl (by omega) ?_ | refine k_leqT rfl rfl (by omega) ?_ | refine k_neqT rfl rfl (by omega) ?_))
      refine w_roundN ⟨i + 1, s', by omega, ⟨w3.ext e2 (by have := st.l; omega), w3.keep d4 (by have := st.l; omega), w3.cel, ?_, st.l⟩, by rw [show lo + ((i + 1 : Nat) : Int) = lo + i + 1 by omega]; rfl⟩ (by simp [cK51, Env.keep, Env.get]; omega)
      have := o2.wrC w3
      rw [en]
      simpa [tms, tmP] using this
  · have : i = n := by omega
    subst this
    repeat' (first | refine w_seq ?_ | refine w_seqN ?_ | refine w_seqX ?_ | refine w_exit ?_ | refine w_ops ?_ | ((refine i_cond ?_); refine w_condF rfl ?_) | ((refine i_nil ?_); refine w_end5 rfl rfl rfl rfl rfl ?_) | ((refine i_cons ?_); first | refine k_ldC rfl d1 ?_ | (refine k_call rfl k28 ?_; rintro r h1 ⟨e1, rfl⟩) | refine k_min rfl rfl ?_ | refine k_mv rfl ?_ | refine k_leqF rfl rfl (by omega) ?_))
    exact w_roundX ⟨rfl, s, _, _, _, ⟨st.e.trans e1, st.c2.ext e1, st.c3.ext e1, st.o.ext e1, st.l⟩, rfl⟩
/-- All terms lie between the exponents of the first and the last one. -/
theorem can_rng {ts : List Tm} (hc : Can ts) : ∀ t ∈ ts, lo0 ts ≤ t.1 ∧ t.1 ≤ hi0 ts := fun t ht => ⟨lo0_le hc t ht, hi0_ge hc t ht⟩
theorem fromC_self {ts : List Tm} (hc : Can ts) {lo : Int} {n : Nat} (h : ∀ t ∈ ts, lo ≤ t.1 ∧ t.1 < lo + n) : fromC (cf ts) lo n = ts := by
  refine Can.ext (fromC_can _ _ _) hc fun e => ?_
  rw [cf_fromC]
  split
  · rfl
  · rename_i hn
    exact (cf_none fun t ht he => hn (by have := h t ht; rw [he] at this; exact this)).symm
theorem call51 (h0 : Heap) (b : Bool) (u : SV) (ts : List Tm) (hs : IsD h0 u (tms ts)) (hc : Can ts) (hl : ts.length ≤ 300000) (hx : ∀ t ∈ ts, t.1.natAbs ≤ 300) :
    ∃ r h', Cal FT HKt 51 [.agg [.bool b, u]] h0 r h' ∧ Ext h0 h' ∧ IsRf h' r ⟨b, ts⟩ := by
  refine Cal.of (F := a51) rfl rfl rfl ?_
  have k14 := fun H => call14 H b u
  have k27 := fun H (e : Ext h0 H) => call27 H b u ts (hs.ext e)
  have hr := can_rng hc
  have hlo : lo0 ts ≤ hi0 ts ∧ -300 ≤ lo0 ts ∧ hi0 ts ≤ 300 := by
    by_cases hz : ts = []
    · subst hz; decide
    · obtain ⟨v, hv, e1⟩ := hi0_mem hz
      obtain ⟨t, ht, e2⟩ := lo0_mem hz
      have h1 := hr v hv
      have h2 := hx v hv
      have h3 := hx t ht
      omega
  have hmx : max (lo0 ts) (-300) = lo0 ts := by omega
  repeat' (first | refine w_seq ?_ | refine w_seqN ?_ | refine w_ops ?_ | ((refine i_nil ?_); first | refine w_end2 rfl rfl ?_ | refine w_end3 rfl rfl rfl ?_) | ((refine i_cons ?_); first | (have z2 := e2; have z3 := d1; refine k_newC ?_; intro h3 e3 c3; have f1 := d1.ext e3; have f2 := c2.ext e3) | (have z := e1; refine k_newC ?_; intro h2 e2 c2; have d1 := c1.ext e2) | (refine k_boxC rfl ?_; intro h1 e1 c1) | refine k_ldC rfl d1 ?_ | (refine k_call rfl (k14 _) ?_; rintro r h2 ⟨e3, rfl⟩; have d1 := d1.ext e3; have c2 := c2.ext e3; have e2 := e2.trans e3) | refine k_bld rfl rfl ?_ | (refine k_stC rfl rfl c3 ?_; intro h3 w3)))
  have n1 := c1.lt
  have n2 := c2.lt
  have n3 := d1.lt
  have x3 := e1.trans (e2.trans e3)
  have w3e : Ext h0 h3 := w3.ext x3 (by have := e1.len; have := e2.len; omega)
  have g1 : Cel h3 h0.length (.bool b) u := w3.keep f1 (by omega)
  have g2 : Cel h3 h1.length .nilS (.bool false) := w3.keep f2 (by omega)
  have k27' := k27 h3 w3e
  repeat' (first | refine w_seqN ?_ | refine w_blk ?_ | ((refine i_nil ?_); refine w_end4 rfl rfl rfl rfl ?_) | ((refine i_cons ?_); first | refine k_ldC rfl g1 ?_ | (refine k_call rfl k27' ?_; rintro r h4 ⟨e4, rfl⟩) | (refine k_max rfl rfl ?_; rw [hmx]) | refine k_mv rfl ?_))
  have x4 : Ext h1 h4 := (w3.ext (e2.trans e3) (by have := e2.len; omega)).trans e4
  refine w_loop (I51 h1 h0.length h1.length h2.length b ts (lo0 ts) (hi0 ts + 1 - lo0 ts).toNat) (cK51 (lo0 ts) (hi0 ts + 1 - lo0 ts).toNat) (R51 h1 h0.length h1.length h2.length b ts (lo0 ts) (hi0 ts + 1 - lo0 ts).toNat) ⟨0, .nilS, Nat.zero_le _, ⟨x4, g2.ext e4, w3.cel.ext e4, .inl ⟨rfl, rfl⟩, Nat.le_refl _, n2⟩, by rw [show lo0 ts + ((0 : Nat) : Int) = lo0 ts by omega]; rfl⟩ (round51 h1 h0.length h1.length h2.length b u ts (hs.ext e1) hc hl c1 _ _ hlo.2.1 (by omega) (by omega) (by omega)) ?_
  rintro ex E' h5 ⟨rfl, s, _, _, _, st, rfl⟩
  rw [fromC_self hc (fun t ht => by have := hr t ht; omega)] at st
  have c2 := st.c2
  repeat' (first | refine w_seq ?_ | refine w_seqN ?_ | refine w_blkX ?_ | refine w_ret ?_ | refine w_ops ?_ | ((refine i_nil ?_); refine w_end1 rfl ?_) | ((refine i_cons ?_); first | refine k_ldC rfl st.c3 ?_ | (refine k_stC rfl rfl c2 ?_; intro h6 w6)))
  refine ⟨.inr rfl, oK_cell rfl w6.cel.read ⟨w6.ext (e1.trans st.e) (by omega), s, rfl, ?_⟩⟩
  exact (st.o.wrC w6).is
end Go.Proofs.YtlnjddjobbhcaaaDoor
