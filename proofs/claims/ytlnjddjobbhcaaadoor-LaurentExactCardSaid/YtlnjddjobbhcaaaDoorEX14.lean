/- The law LaurentExact. -/
import Derived.Test.YtlnjddjobbhcaaaDoorEX13
import Derived.Test.YtlnjddjobbhcaaaDoorO7
import Derived.Test.YtlnjddjobbhcaaaDoorO1
import Derived.Test.YtlnjddjobbhcaaaDoorT5
namespace Go.Proofs.YtlnjddjobbhcaaaDoor
open Go.Ab
set_option linter.unusedVariables false
set_option linter.unusedSimpArgs false
set_option maxRecDepth 20000
set_option maxHeartbeats 8000000
attribute [local irreducible] wOps wA wSeq wBlk wRound wRoundI wOpsD wOpsS

def kC (x : Int) : Prop := -1000 ≤ x ∧ x ≤ 1000
def I4 (hb : Heap) (a b c d e f : AV) (s : SV) (xs : List Int) (k : Nat) (E : Env) (h : Heap) : Prop := h = hb ∧ ∃ i : Nat, i ≤ xs.length ∧ k = xs.length - i ∧ (∀ x ∈ xs.take i, kC x) ∧
  E.keep [0, 1, 2, 3, 9, 10, 11, 12] = [(0, some a), (1, some b), (2, some c), (3, some d), (9, some e), (10, some f), (11, some (.sc s)), (12, some (.sc (.int .i64 (i : Nat))))]
def R4 (hb : Heap) (a b c d e f : AV) (xs : List Int) (ex : Ex) (E : Env) (h : Heap) : Prop := h = hb ∧
  ((ex = .ex 0 ∧ (∀ x ∈ xs, kC x) ∧ ∃ u v w, E = [(0, some a), (1, some b), (2, some c), (3, some d), (9, some e), (10, some f), (11, u), (12, v), (63, w)]) ∨ (ex = .rt ∧ E = [(8, some (.sc (.bool true)))]))
theorem round4 (hb : Heap) (a b c d e f : AV) (s : SV) (xs : List Int) (hs : IsInts hb s xs) (hn : xs.length ≤ 40) (k : Nat) (E : Env) (h : Heap) (hI : I4 hb a b c d e f s xs k E h) :
    wA FT HKt b4L0 (E.keep [0, 1, 2, 3, 9, 10, 11, 12]) h (wRoundI (I4 hb a b c d e f s xs) k (R4 hb a b c d e f xs)) := by
  obtain ⟨rfl, i, hi, rfl, hsm, hE⟩ := hI
  rw [hE]
  have ls := IsSl.len hs
  by_cases hlt : i < xs.length
  · obtain ⟨x, hx⟩ : ∃ x, xs[i]? = some x := ⟨_, List.getElem?_eq_getElem hlt⟩
    obtain ⟨id, off, cap, rfl, rd⟩ := IsInts.at hs hx
    by_cases h1 : x < -1000
    · repeat' (first | refine w_seq ?_ | refine w_seqN ?_ | refine w_seqR ?_ | refine w_blk ?_ | refine w_blkR ?_ | refine w_skip ?_ | refine w_ret ?_ | refine w_ops ?_ | ((refine i_cond ?_); refine w_condT rfl ?_) | ((refine i_nil ?_); first | refine w_end1 rfl ?_ | refine w_end9 rfl rfl rfl rfl rfl rfl rfl rfl rfl ?_) | ((refine i_cons ?_); first | refine k_len rfl ls ?_ | refine k_idxA (esz := 1) rfl rfl (by omega) ?_ | refine k_ld rfl rd ?_ | refine k_want rfl ?_ | refine k_mv rfl ?_ | refine k_pickF rfl rfl ?_ | refine k_lssT rfl rfl (by omega) ?_ | refine k_gtrF rfl rfl (by omega) ?_))
      exact w_roundIR ⟨rfl, .inr ⟨rfl, rfl⟩⟩
    · by_cases h2 : 1000 < x
      · repeat' (first | refine w_seq ?_ | refine w_seqN ?_ | refine w_seqR ?_ | refine w_blk ?_ | refine w_blkR ?_ | refine w_skip ?_ | refine w_ret ?_ | refine w_ops ?_ | ((refine i_cond ?_); refine w_condT rfl ?_) | ((refine i_nil ?_); first | refine w_end1 rfl ?_ | refine w_end9 rfl rfl rfl rfl rfl rfl rfl rfl rfl ?_) | ((refine i_cons ?_); first | refine k_len rfl ls ?_ | refine k_idxA (esz := 1) rfl rfl (by omega) ?_ | refine k_ld rfl rd ?_ | refine k_skip rfl ?_ | refine k_mv rfl ?_ | refine k_pickT rfl rfl ?_ | refine k_lssT rfl rfl (by omega) ?_ | refine k_gtrT rfl rfl (by omega) ?_))
        exact w_roundIR ⟨rfl, .inr ⟨rfl, rfl⟩⟩
      · repeat' (first | refine w_seq ?_ | refine w_seqN ?_ | refine w_blk ?_ | refine w_blkN ?_ | refine w_skip ?_ | refine w_ops ?_ | ((refine i_cond ?_); first | refine w_condT rfl ?_ | refine w_condF rfl ?_) | ((refine i_nil ?_); first | refine w_end8 rfl rfl rfl rfl rfl rfl rfl rfl ?_ | refine w_end9 rfl rfl rfl rfl rfl rfl rfl rfl rfl ?_) | ((refine i_cons ?_); first | refine k_len rfl ls ?_ | refine k_idxA (esz := 1) rfl rfl (by omega) ?_ | refine k_ld rfl rd ?_ | refine k_want rfl ?_ | refine k_mv rfl ?_ | refine k_pickF rfl rfl ?_ | refine k_add rfl rfl (by omega) ?_ | refine k_lssT rfl rfl (by omega) ?_ | refine k_lssF rfl rfl (by omega) ?_ | refine k_gtrF rfl rfl (by omega) ?_))
        refine w_roundIN (j := xs.length - (i + 1)) (by omega) ⟨rfl, i + 1, by omega, rfl, fun y hy => ?_, rfl⟩
        rw [List.take_add_one, hx] at hy
        rcases List.mem_append.1 hy with hy | hy
        · exact hsm y hy
        · simp at hy; subst hy; exact ⟨by omega, by omega⟩
  · have : i = xs.length := by omega
    subst this
    rw [List.take_length] at hsm
    repeat' (first | refine w_seq ?_ | refine w_seqN ?_ | refine w_seqX ?_ | refine w_exit ?_ | refine w_ops ?_ | ((refine i_cond ?_); refine w_condF rfl ?_) | ((refine i_nil ?_); refine w_end9 rfl rfl rfl rfl rfl rfl rfl rfl rfl ?_) | ((refine i_cons ?_); first | refine k_len rfl ls ?_ | refine k_mv rfl ?_ | refine k_lssF rfl rfl (by omega) ?_))
    exact w_roundIX ⟨rfl, .inl ⟨rfl, hsm, _, _, _, rfl⟩⟩
theorem ofP_mem {low : Int} {xs : List Int} {t : Tm} (h : t ∈ (ofP low xs).ts) : low ≤ t.1 ∧ t.1 < low + xs.length ∧ t.2 ∈ xs := by
  have h1 := ofP_rngO (low := low) (xs := xs) t h
  refine ⟨h1.1, h1.2, ?_⟩
  unfold ofP at h
  cases h2 : ofN low xs xs.length with
  | none => rw [h2] at h; simp [bigP] at h
  | some r =>
    rw [h2] at h
    have h3 := (ofN_ok h2).2.2 t.1
    have h4 := (ofN_ok h2).1
    rw [cf_mem h4 h, if_pos h1] at h3
    rw [h3, List.getD_eq_getElem?_getD, List.getElem?_eq_getElem (by omega)]
    exact List.getElem_mem _
theorem few_of {low low2 : Int} {xs ys : List Int} {p q : List Tm} (h1 : smallP low xs) (h2 : smallP low2 ys) (l1 : xs.length ≤ 10) (l2 : ys.length ≤ 10) (hk : ∀ x ∈ xs ++ ys, kC x) (ep : ofP low xs = ⟨false, p⟩) (eq : ofP low2 ys = ⟨false, q⟩) (q0 : q ≠ []) : Few p q := by
  have kp := ofP_ok low xs
  have kq := ofP_ok low2 ys
  have mp : ∀ t ∈ p, low ≤ t.1 ∧ t.1 < low + xs.length ∧ t.2 ∈ xs := fun t ht => ofP_mem (by rw [ep]; exact ht)
  have mq : ∀ t ∈ q, low2 ≤ t.1 ∧ t.1 < low2 + ys.length ∧ t.2 ∈ ys := fun t ht => ofP_mem (by rw [eq]; exact ht)
  rw [ep] at kp
  rw [eq] at kq
  have s1 := h1.2
  have s2 := h2.2
  refine ⟨kp, kq, fun t ht => ?_, fun t ht => ?_, fun p0 => ?_, q0⟩
  · obtain ⟨a, b, c⟩ := mp t ht
    have := hk _ (List.mem_append.2 (.inl c))
    unfold kC at this
    omega
  · obtain ⟨a, b, c⟩ := mq t ht
    have := hk _ (List.mem_append.2 (.inr c))
    unfold kC at this
    omega
  · obtain ⟨t, t1, t2⟩ := lo0_mem p0
    obtain ⟨u, u1, u2⟩ := hi0_mem p0
    have := mp t t1
    have := mp u u1
    omega
theorem Exq.pok {p q s : List Tm} (f : Few p q) (hx : Exq p q s) : Pok ⟨false, s⟩ :=
  ⟨by simp, hx.1, fun t ht => Nat.le_trans (hx.small f t ht).1 (by decide), fun t ht => Nat.le_trans (hx.small f t ht).2 (by decide)⟩
theorem Exq.div {p q s : List Tm} (f : Few p q) (hx : Exq p q s) : divA ⟨false, p⟩ ⟨false, q⟩ = (⟨false, s⟩, 0) :=
  divA_complete f.kp (hx.pok f) f.kq rfl rfl rfl f.q0 hx.2
theorem Exq.ex300 {p q s : List Tm} (f : Few p q) (hx : Exq p q s) : ∀ t ∈ s, t.1.natAbs ≤ 300 := by
  intro t ht
  have s0 : s ≠ [] := fun e => by rw [e] at ht; cases ht
  have cs := hx.1
  have kqc : Can q := f.kq.can
  have kpc : Can p := f.kp.can
  obtain ⟨p0, h1, h2⟩ := ends_mul kpc kqc f.q0 cs s0 hx.2
  obtain ⟨u1, m1, n1⟩ := lo0_mem p0
  obtain ⟨u2, m2, n2⟩ := hi0_mem p0
  obtain ⟨u3, m3, n3⟩ := lo0_mem f.q0
  obtain ⟨u4, m4, n4⟩ := hi0_mem f.q0
  have b1 := (f.p1 u1 m1).2
  have b2 := (f.p1 u2 m2).2
  have b3 := (f.q1 u3 m3).2
  have b4 := (f.q1 u4 m4).2
  have l1 := lo0_le cs t ht
  have l2 := hi0_ge cs t ht
  omega
/-- Facts that hold while memory grows. -/
structure St4 (h0 h : Heap) (q9 q10 : Nat) (s1 s2 : SV) (pb qb : Bool) (p q : List Tm) : Prop where
  e : Ext h0 h
  c9 : Cel h q9 s1 (.bool pb)
  c10 : Cel h q10 s2 (.bool qb)
  d1 : IsD h s1 (tms p)
  d2 : IsD h s2 (tms q)
theorem St4.ext {h0 h h' : Heap} {q9 q10 : Nat} {s1 s2 : SV} {pb qb : Bool} {p q : List Tm} (u : St4 h0 h q9 q10 s1 s2 pb qb p q) (e : Ext h h') : St4 h0 h' q9 q10 s1 s2 pb qb p q := ⟨u.e.trans e, u.c9.ext e, u.c10.ext e, u.d1.ext e, u.d2.ext e⟩
theorem lit0h (h : Heap) : ∃ h1, h ++ [Blk.cells [] true 1] = h1 ∧ Ext h h1 ∧ Own h h1 (.slc h.length 0 0 (some 0)) [] := ⟨_, rfl, ⟨_, rfl⟩, Own.lit0 h⟩
theorem call4 (h0 : Heap) (low : Int) (hlow : -9223372036854775808 ≤ low ∧ low ≤ 9223372036854775807) (s : SV) (xs : List Int) (hx : IsInts h0 s xs) (low2 : Int) (hlow2 : -9223372036854775808 ≤ low2 ∧ low2 ≤ 9223372036854775807) (t : SV) (ys : List Int) (hy : IsInts h0 t ys) :
    ∃ v h', Cal FT HKt 4 [.sc (.int .i64 low), .sc s, .sc (.int .i64 low2), .sc t] h0 v h' ∧ v = .sc (.bool true) := by
  refine Cal.of (F := a4) rfl rfl rfl ?_
  have aw := fun H => awake_callT H
  have k11a := fun H (e : Ext h0 H) => call11 H low s xs (IsSl.ext hx e)
  have k11b := fun H (e : Ext h0 H) => call11 H low2 t ys (IsSl.ext hy e)
  by_cases hs1 : smallP low xs
  case neg =>
    rw [if_neg hs1] at k11a
    repeat' (first | refine w_seq ?_ | refine w_seqN ?_ | refine w_seqR ?_ | refine w_skip ?_ | refine w_ret ?_ | refine w_ops ?_ | ((refine i_cond ?_); first | refine w_condT rfl ?_ | refine w_condF rfl ?_) | ((refine i_nil ?_); first | refine w_end1 rfl ?_ | refine w_end4 rfl rfl rfl rfl ?_ | refine w_end5 rfl rfl rfl rfl rfl ?_) | ((refine i_cons ?_); first | (refine k_call rfl (aw _) ?_; rintro v _ ⟨rfl, rfl⟩) | (refine k_call rfl (k11a _ (Ext.refl _)) ?_; rintro v _ ⟨rfl, rfl⟩) | refine k_skip rfl ?_ | refine k_mv rfl ?_ | refine k_pickT rfl rfl ?_ | refine k_notT rfl ?_ | refine k_eqlT rfl rfl (by omega) ?_))
    exact ⟨.inr rfl, rfl⟩
  by_cases hs2 : smallP low2 ys
  case neg =>
    rw [if_pos hs1] at k11a
    rw [if_neg hs2] at k11b
    repeat' (first | refine w_seq ?_ | refine w_seqN ?_ | refine w_seqR ?_ | refine w_skip ?_ | refine w_ret ?_ | refine w_ops ?_ | ((refine i_cond ?_); first | refine w_condT rfl ?_ | refine w_condF rfl ?_) | ((refine i_nil ?_); first | refine w_end1 rfl ?_ | refine w_end4 rfl rfl rfl rfl ?_ | refine w_end5 rfl rfl rfl rfl rfl ?_) | ((refine i_cons ?_); first | (refine k_call rfl (aw _) ?_; rintro v _ ⟨rfl, rfl⟩) | (refine k_call rfl (k11a _ (Ext.refl _)) ?_; rintro v _ ⟨rfl, rfl⟩) | (refine k_call rfl (k11b _ (Ext.refl _)) ?_; rintro v _ ⟨rfl, rfl⟩) | refine k_want rfl ?_ | refine k_mv rfl ?_ | refine k_pickF rfl rfl ?_ | refine k_notT rfl ?_ | refine k_eqlT rfl rfl (by omega) ?_ | refine k_eqlF rfl rfl (by omega) ?_))
    exact ⟨.inr rfl, rfl⟩
  rw [if_pos hs1] at k11a
  rw [if_pos hs2] at k11b
  obtain ⟨a1, a2, a3⟩ := small_ofP hs1
  obtain ⟨b1, b2, b3⟩ := small_ofP hs2
  have k12a := fun H (e : Ext h0 H) => call12 H low a2 s xs a1 (IsSl.ext hx e) a3
  have k12b := fun H (e : Ext h0 H) => call12 H low2 b2 t ys b1 (IsSl.ext hy e) b3
  have k18a := fun H (e : Ext h0 H) => call18 H low s xs hs1 (IsSl.ext hx e)
  have k18b := fun H (e : Ext h0 H) => call18 H low2 t ys hs2 (IsSl.ext hy e)
  have lx := IsSl.len hx
  have ly := IsSl.len hy
  have few := fun l1 l2 hk => few_of (low := low) (low2 := low2) (xs := xs) (ys := ys) (p := (ofP low xs).ts) (q := (ofP low2 ys).ts) hs1 hs2 l1 l2 hk
  have nx := hs1.1
  have ny := hs2.1
  have ql0 : (ofP low2 ys).ts.length ≤ ys.length := can_len (ofP_ok low2 ys).can fun t ht => ofP_rngO t ht
  generalize ofP low xs = P at *
  generalize ofP low2 ys = Q at *
  obtain ⟨pb, p⟩ := P
  obtain ⟨qb, q⟩ := Q
  simp only at few ql0
  by_cases c1 : pb = true
  · subst c1
    repeat' (first | refine w_seq ?_ | refine w_seqN ?_ | refine w_seqR ?_ | refine w_skip ?_ | refine w_ret ?_ | refine w_ops ?_ | ((refine i_cond ?_); first | refine w_condT rfl ?_ | refine w_condF rfl ?_) | ((refine i_nil ?_); first | refine w_end1 rfl ?_ | refine w_end4 rfl rfl rfl rfl ?_ | refine w_end5 rfl rfl rfl rfl rfl ?_ | refine w_end6 rfl rfl rfl rfl rfl rfl ?_ | refine w_end7 rfl rfl rfl rfl rfl rfl rfl ?_) | ((refine i_cons ?_); first | (refine k_call rfl (aw _) ?_; rintro v _ ⟨rfl, rfl⟩) | (refine k_call rfl (k11a _ (Ext.refl _)) ?_; rintro v _ ⟨rfl, rfl⟩) | (refine k_call rfl (k11b _ (Ext.refl _)) ?_; rintro v _ ⟨rfl, rfl⟩) | (refine k_call rfl (k18a _ (Ext.refl _)) ?_; rintro v h1 ⟨e1, s1, rfl, d1⟩) | (refine k_call rfl (k18b _ e1) ?_; rintro v h2 ⟨e2, s2, rfl, d2⟩) | (have z := e3; refine k_newC ?_; intro h4 e4 c10; have c9' := c9.ext e4; have n9 := c9.lt) | (refine k_newC ?_; intro h3 e3 c9) | (refine k_stC rfl rfl c9' ?_; intro h5 w5; have d10 := w5.keep c10 (by omega)) | (refine k_stC rfl rfl d10 ?_; intro h6 w6; have u9 := w6.keep w5.cel (by omega)) | refine k_fldA rfl ?_ | refine k_ldC1 rfl u9 ?_ | refine k_skip rfl ?_ | refine k_want rfl ?_ | refine k_mv rfl ?_ | refine k_pickT rfl rfl ?_ | refine k_pickF rfl rfl ?_ | refine k_notT rfl ?_ | refine k_eqlF rfl rfl (by omega) ?_))
    exact ⟨.inr rfl, rfl⟩
  obtain rfl : pb = false := by simpa using c1
  by_cases c2 : qb = true
  · subst c2
    repeat' (first | refine w_seq ?_ | refine w_seqN ?_ | refine w_seqR ?_ | refine w_skip ?_ | refine w_ret ?_ | refine w_ops ?_ | ((refine i_cond ?_); first | refine w_condT rfl ?_ | refine w_condF rfl ?_) | ((refine i_nil ?_); first | refine w_end1 rfl ?_ | refine w_end4 rfl rfl rfl rfl ?_ | refine w_end5 rfl rfl rfl rfl rfl ?_ | refine w_end6 rfl rfl rfl rfl rfl rfl ?_ | refine w_end7 rfl rfl rfl rfl rfl rfl rfl ?_) | ((refine i_cons ?_); first | (refine k_call rfl (aw _) ?_; rintro v _ ⟨rfl, rfl⟩) | (refine k_call rfl (k11a _ (Ext.refl _)) ?_; rintro v _ ⟨rfl, rfl⟩) | (refine k_call rfl (k11b _ (Ext.refl _)) ?_; rintro v _ ⟨rfl, rfl⟩) | (refine k_call rfl (k18a _ (Ext.refl _)) ?_; rintro v h1 ⟨e1, s1, rfl, d1⟩) | (refine k_call rfl (k18b _ e1) ?_; rintro v h2 ⟨e2, s2, rfl, d2⟩) | (have z := e3; refine k_newC ?_; intro h4 e4 c10; have c9' := c9.ext e4; have n9 := c9.lt) | (refine k_newC ?_; intro h3 e3 c9) | (refine k_stC rfl rfl c9' ?_; intro h5 w5; have d10 := w5.keep c10 (by omega)) | (refine k_stC rfl rfl d10 ?_; intro h6 w6; have u9 := w6.keep w5.cel (by omega); have u10 := w6.cel) | refine k_fldA rfl ?_ | refine k_ldC1 rfl u9 ?_ | refine k_ldC1 rfl u10 ?_ | refine k_skip rfl ?_ | refine k_want rfl ?_ | refine k_mv rfl ?_ | refine k_pickT rfl rfl ?_ | refine k_pickF rfl rfl ?_ | refine k_notT rfl ?_ | refine k_eqlF rfl rfl (by omega) ?_))
    exact ⟨.inr rfl, rfl⟩
  obtain rfl : qb = false := by simpa using c2
  by_cases q0 : q = []
  · have lq : ∀ H s, IsD H s (tms q) → lenS false s = some ((0 : Nat) : Int) := fun H s d => by have := d.len; rw [q0] at this; exact this
    repeat' (first | refine w_seq ?_ | refine w_seqN ?_ | refine w_seqR ?_ | refine w_skip ?_ | refine w_ret ?_ | refine w_ops ?_ | ((refine i_cond ?_); first | refine w_condT rfl ?_ | refine w_condF rfl ?_) | ((refine i_nil ?_); first | refine w_end1 rfl ?_ | refine w_end4 rfl rfl rfl rfl ?_ | refine w_end5 rfl rfl rfl rfl rfl ?_ | refine w_end6 rfl rfl rfl rfl rfl rfl ?_ | refine w_end7 rfl rfl rfl rfl rfl rfl rfl ?_) | ((refine i_cons ?_); first | (refine k_call rfl (aw _) ?_; rintro v _ ⟨rfl, rfl⟩) | (refine k_call rfl (k11a _ (Ext.refl _)) ?_; rintro v _ ⟨rfl, rfl⟩) | (refine k_call rfl (k11b _ (Ext.refl _)) ?_; rintro v _ ⟨rfl, rfl⟩) | (refine k_call rfl (k18a _ (Ext.refl _)) ?_; rintro v h1 ⟨e1, s1, rfl, d1⟩) | (refine k_call rfl (k18b _ e1) ?_; rintro v h2 ⟨e2, s2, rfl, d2⟩) | (have z := e3; refine k_newC ?_; intro h4 e4 c10; have c9' := c9.ext e4; have n9 := c9.lt) | (refine k_newC ?_; intro h3 e3 c9) | (refine k_stC rfl rfl c9' ?_; intro h5 w5; have d10 := w5.keep c10 (by omega)) | (refine k_stC rfl rfl d10 ?_; intro h6 w6; have u9 := w6.keep w5.cel (by omega); have u10 := w6.cel) | refine k_fldA rfl ?_ | refine k_ldC1 rfl u9 ?_ | refine k_ldC1 rfl u10 ?_ | refine k_ldC0 rfl u10 ?_ | refine k_len rfl (lq _ _ d2) ?_ | refine k_want rfl ?_ | refine k_mv rfl ?_ | refine k_pickF rfl rfl ?_ | refine k_notT rfl ?_ | refine k_eqlT rfl rfl (by omega) ?_ | refine k_eqlF rfl rfl (by omega) ?_))
    exact ⟨.inr rfl, rfl⟩
  have lq : ∀ H s, IsD H s (tms q) → lenS false s = some (q.length : Int) := fun H s d => by have := d.len; rwa [tms_len] at this
  have lqp : 0 < q.length := List.length_pos_iff.2 q0
  by_cases c3 : xs.length ≤ 10 ∧ ys.length ≤ 10
  case neg =>
    by_cases c4 : xs.length ≤ 10
    · have c5 : ¬ ys.length ≤ 10 := fun h => c3 ⟨c4, h⟩
      repeat' (first | refine w_seq ?_ | refine w_seqN ?_ | refine w_seqR ?_ | refine w_skip ?_ | refine w_ret ?_ | refine w_ops ?_ | ((refine i_cond ?_); first | refine w_condT rfl ?_ | refine w_condF rfl ?_) | ((refine i_nil ?_); first | refine w_end1 rfl ?_ | refine w_end4 rfl rfl rfl rfl ?_ | refine w_end5 rfl rfl rfl rfl rfl ?_ | refine w_end6 rfl rfl rfl rfl rfl rfl ?_ | refine w_end7 rfl rfl rfl rfl rfl rfl rfl ?_) | ((refine i_cons ?_); first | (refine k_call rfl (aw _) ?_; rintro v _ ⟨rfl, rfl⟩) | (refine k_call rfl (k11a _ (Ext.refl _)) ?_; rintro v _ ⟨rfl, rfl⟩) | (refine k_call rfl (k11b _ (Ext.refl _)) ?_; rintro v _ ⟨rfl, rfl⟩) | (refine k_call rfl (k18a _ (Ext.refl _)) ?_; rintro v h1 ⟨e1, s1, rfl, d1⟩) | (refine k_call rfl (k18b _ e1) ?_; rintro v h2 ⟨e2, s2, rfl, d2⟩) | (have z := e3; refine k_newC ?_; intro h4 e4 c10; have c9' := c9.ext e4; have n9 := c9.lt) | (refine k_newC ?_; intro h3 e3 c9) | (refine k_stC rfl rfl c9' ?_; intro h5 w5; have d10 := w5.keep c10 (by omega)) | (refine k_stC rfl rfl d10 ?_; intro h6 w6; have u9 := w6.keep w5.cel (by omega); have u10 := w6.cel) | refine k_fldA rfl ?_ | refine k_ldC1 rfl u9 ?_ | refine k_ldC1 rfl u10 ?_ | refine k_ldC0 rfl u10 ?_ | refine k_len rfl (lq _ _ d2) ?_ | refine k_len rfl lx ?_ | refine k_len rfl ly ?_ | refine k_want rfl ?_ | refine k_mv rfl ?_ | refine k_pickF rfl rfl ?_ | refine k_notT rfl ?_ | refine k_gtrT rfl rfl (by omega) ?_ | refine k_gtrF rfl rfl (by omega) ?_ | refine k_eqlF rfl rfl (by omega) ?_))
      exact ⟨.inr rfl, rfl⟩
    · repeat' (first | refine w_seq ?_ | refine w_seqN ?_ | refine w_seqR ?_ | refine w_skip ?_ | refine w_ret ?_ | refine w_ops ?_ | ((refine i_cond ?_); first | refine w_condT rfl ?_ | refine w_condF rfl ?_) | ((refine i_nil ?_); first | refine w_end1 rfl ?_ | refine w_end4 rfl rfl rfl rfl ?_ | refine w_end5 rfl rfl rfl rfl rfl ?_ | refine w_end6 rfl rfl rfl rfl rfl rfl ?_ | refine w_end7 rfl rfl rfl rfl rfl rfl rfl ?_) | ((refine i_cons ?_); first | (refine k_call rfl (aw _) ?_; rintro v _ ⟨rfl, rfl⟩) | (refine k_call rfl (k11a _ (Ext.refl _)) ?_; rintro v _ ⟨rfl, rfl⟩) | (refine k_call rfl (k11b _ (Ext.refl _)) ?_; rintro v _ ⟨rfl, rfl⟩) | (refine k_call rfl (k18a _ (Ext.refl _)) ?_; rintro v h1 ⟨e1, s1, rfl, d1⟩) | (refine k_call rfl (k18b _ e1) ?_; rintro v h2 ⟨e2, s2, rfl, d2⟩) | (have z := e3; refine k_newC ?_; intro h4 e4 c10; have c9' := c9.ext e4; have n9 := c9.lt) | (refine k_newC ?_; intro h3 e3 c9) | (refine k_stC rfl rfl c9' ?_; intro h5 w5; have d10 := w5.keep c10 (by omega)) | (refine k_stC rfl rfl d10 ?_; intro h6 w6; have u9 := w6.keep w5.cel (by omega); have u10 := w6.cel) | refine k_fldA rfl ?_ | refine k_ldC1 rfl u9 ?_ | refine k_ldC1 rfl u10 ?_ | refine k_ldC0 rfl u10 ?_ | refine k_len rfl (lq _ _ d2) ?_ | refine k_len rfl lx ?_ | refine k_skip rfl ?_ | refine k_want rfl ?_ | refine k_mv rfl ?_ | refine k_pickT rfl rfl ?_ | refine k_pickF rfl rfl ?_ | refine k_notT rfl ?_ | refine k_gtrT rfl rfl (by omega) ?_ | refine k_eqlF rfl rfl (by omega) ?_))
      exact ⟨.inr rfl, rfl⟩
  obtain ⟨n1, n2⟩ := c3
  have few := few n1 n2
  repeat' (first | refine w_seq ?_ | refine w_seqN ?_ | refine w_blk ?_ | refine w_skip ?_ | refine w_ops ?_ | ((refine i_cond ?_); refine w_condF rfl ?_) | ((refine i_nil ?_); first | refine w_end4 rfl rfl rfl rfl ?_ | refine w_end5 rfl rfl rfl rfl rfl ?_ | refine w_end6 rfl rfl rfl rfl rfl rfl ?_ | refine w_end7 rfl rfl rfl rfl rfl rfl rfl ?_ | refine w_end8 rfl rfl rfl rfl rfl rfl rfl rfl ?_) | ((refine i_cons ?_); first | (refine k_call rfl (aw _) ?_; rintro v _ ⟨rfl, rfl⟩) | (refine k_call rfl (k11a _ (Ext.refl _)) ?_; rintro v _ ⟨rfl, rfl⟩) | (refine k_call rfl (k11b _ (Ext.refl _)) ?_; rintro v _ ⟨rfl, rfl⟩) | (refine k_call rfl (k18a _ (Ext.refl _)) ?_; rintro v h1 ⟨e1, s1, rfl, d1⟩) | (refine k_call rfl (k18b _ e1) ?_; rintro v h2 ⟨e2, s2, rfl, d2⟩) | (have z := e3; refine k_newC ?_; intro h4 e4 c10; have c9' := c9.ext e4; have n9 := c9.lt) | (refine k_newC ?_; intro h3 e3 c9) | (refine k_stC rfl rfl c9' ?_; intro h5 w5; have d10 := w5.keep c10 (by omega)) | (refine k_stC rfl rfl d10 ?_; intro h6 w6; have u9 := w6.keep w5.cel (by omega); have u10 := w6.cel) | refine k_fldA rfl ?_ | refine k_ldC1 rfl u9 ?_ | refine k_ldC1 rfl u10 ?_ | refine k_ldC0 rfl u10 ?_ | refine k_len rfl (lq _ _ d2) ?_ | refine k_len rfl lx ?_ | refine k_len rfl ly ?_ | (refine k_bl0 ?_; have m12 := (e1.trans e2).len; have m3 := e3.len; have st := show St4 _ h6 h2.length h3.length s1 s2 false false p q from ⟨w6.ext (w5.ext (((e1.trans e2).trans e3).trans e4) m12) (by omega), u9, u10, ((((d1.ext e2).ext e3).ext e4).wrC w5).wrC w6, (((d2.ext e3).ext e4).wrC w5).wrC w6⟩; obtain ⟨h7, q7, e7, o7⟩ := lit0h h6; rw [q7]) | (refine k_app0 e7 o7 rfl rfl (IsInts.src (IsSl.ext hx (st.e.trans e7))) (by simp only [bigN, List.length_map]; omega) ?_; intro sA h8 o8 e8 f8) | (have z := o8; refine k_app (e7.trans e8) o8 rfl rfl (IsInts.src (IsSl.ext hy (st.e.trans (e7.trans e8)))) (by simp only [bigN, List.length_map]; omega) ?_; intro sB h9 o9 e9 l9 f9) | refine k_want rfl ?_ | refine k_mv rfl ?_ | refine k_pickF rfl rfl ?_ | refine k_notT rfl ?_ | refine k_gtrF rfl rfl (by omega) ?_ | refine k_eqlF rfl rfl (by omega) ?_))
  have oI : IsInts h9 sB (xs ++ ys) := by
    refine Own.ids (h0 := h6) ?_
    rw [List.map_append]; exact o9
  have st9 := st.ext e9
  refine w_loopI (I4 h9 (.sc (.int .i64 low)) (.sc s) (.sc (.int .i64 low2)) (.sc t) (.sc (.ptr h2.length 0)) (.sc (.ptr h3.length 0)) sB (xs ++ ys)) (xs ++ ys).length (R4 h9 (.sc (.int .i64 low)) (.sc s) (.sc (.int .i64 low2)) (.sc t) (.sc (.ptr h2.length 0)) (.sc (.ptr h3.length 0)) (xs ++ ys)) ⟨rfl, 0, Nat.zero_le _, rfl, by simp, rfl⟩ (round4 h9 _ _ _ _ _ _ sB (xs ++ ys) oI (by rw [List.length_append]; omega)) ?_
  rintro ex E' hh ⟨rfl, ⟨rfl, hk, _, _, _, rfl⟩ | ⟨rfl, rfl⟩⟩
  case inr =>
    repeat' (first | refine w_seqR ?_ | refine w_blkR ?_)
    exact ⟨.inr rfl, rfl⟩
  have F : Few p q := few hk rfl rfl q0
  have k13 := fun H sp sq ip iq => call13 H sp sq ⟨false, p⟩ ⟨false, q⟩ ip iq F.kp F.kq
  have ql : q.length ≤ 16 := by omega
  by_cases hE : ∃ w, Exq p q w
  · obtain ⟨w, hw⟩ := hE
    rw [hw.div F] at k13
    dsimp only at k13
    have k19 : ∀ H s1 s2, IsD H s1 (tms p) → IsD H s2 (tms q) → ∃ r h', Cal FT HKt 19 [.agg [s1, .bool false], .agg [s2, .bool false]] H r h' ∧ Ext H h' ∧ ∃ z, r = .tup [.agg [z, .bool false], .sc (.bool true)] ∧ IsD h' z (tms w) := fun H s1 s2 d1 d2 => by
      obtain ⟨r, h', a, b, ⟨o, z, c, d, e, -, -⟩ | ⟨-, hno⟩⟩ := call19 H s1 s2 p q d1 d2 F ql
      · have := e.div F
        rw [hw.div F] at this
        injection this with h1
        injection h1 with _ h2
        rw [← h2] at d
        exact ⟨r, h', a, b, z, c, d⟩
      · exact absurd hw (hno w)
    have hw3 := hw.ex300 F
    have k20 := fun H a b (d1 : IsD H a (tms w)) (d2 : IsD H b (tms w)) => call20 H a b ⟨false, w⟩ (hw.pok F) (Nat.le_trans (can_len (lo := -300) (n := 601) hw.1 fun u hu => by have := hw3 u hu; omega) (by decide)) hw3 d1 d2
    repeat' (first | refine w_seq ?_ | refine w_seqN ?_ | refine w_blkX ?_ | refine w_skip ?_ | refine w_ret ?_ | refine w_ops ?_ | ((refine i_cond ?_); refine w_condF rfl ?_) | ((refine i_nil ?_); first | refine w_end1 rfl ?_ | refine w_end4 rfl rfl rfl rfl ?_) | ((refine i_cons ?_); first | (have z := eE; refine k_newst rfl ?_; intro hG eG c15; have c13G := (c13.ext eE).ext eG; have irG := (irD.ext eE).ext eG; have iwG := iw.ext eG) | (refine k_newst rfl ?_; intro hD eD c13; have irD := ir.ext eD; have stD := (((st9.ext eA).ext eB).ext eC).ext eD) | (refine k_call rfl (k12a hh st9.e) ?_; rintro v hA ⟨eA, sp, rfl, ip⟩) | (refine k_call rfl (k12b hA (st9.e.trans eA)) ?_; rintro v hB ⟨eB, sq, rfl, iq⟩; have ipB := ip.ext eB) | (refine k_call rfl (k13 hB _ _ ipB iq) ?_; rintro v hC ⟨eC, sr, rfl, ir⟩) | refine k_ldC rfl stD.c9 ?_ | refine k_ldC rfl stD.c10 ?_ | (refine k_call rfl (k19 hD _ _ stD.d1 stD.d2) ?_; rintro v hE ⟨eE, sw, rfl, iw⟩) | refine k_ldC rfl c13G ?_ | refine k_ldC rfl c15 ?_ | (refine k_call rfl (k20 hG _ _ irG iwG) ?_; rintro v hI ⟨eI, rfl⟩) | refine k_want rfl ?_ | refine k_mv rfl ?_ | refine k_pickT rfl rfl ?_ | refine k_notT rfl ?_ | refine k_eqlT rfl rfl (by omega) ?_ | refine k_ok rfl rfl ?_))
    exact ⟨.inr rfl, rfl⟩
  · have hdiv : divA ⟨false, p⟩ ⟨false, q⟩ = (zeroP, 10) := by
      rcases divA_sound F.kp F.kq rfl rfl q0 with ⟨-, k, -, hm⟩ | h
      · exact absurd ⟨_, k.can, fun e => (hm e).symm⟩ hE
      · exact h
    rw [hdiv] at k13
    dsimp only at k13
    have k19 : ∀ H s1 s2, IsD H s1 (tms p) → IsD H s2 (tms q) → ∃ r h', Cal FT HKt 19 [.agg [s1, .bool false], .agg [s2, .bool false]] H r h' ∧ Ext H h' ∧ r = .tup [.agg [.nilS, .bool false], .sc (.bool false)] := fun H s1 s2 d1 d2 => by
      obtain ⟨r, h', a, b, ⟨o, z, c, d, e, -, -⟩ | ⟨c, hno⟩⟩ := call19 H s1 s2 p q d1 d2 F ql
      · exact absurd ⟨o, e⟩ hE
      · exact ⟨r, h', a, b, c⟩
    have k15z : ∀ H z, IsD H z (tms []) → ∃ r h', Cal FT HKt 15 [.agg [.bool false, z]] H r h' ∧ Ext H h' ∧ r = .sc (.bool true) := fun H z d => by simpa using call15 H false z [] d
    repeat' (first | refine w_seq ?_ | refine w_seqN ?_ | refine w_seqR ?_ | refine w_blkX ?_ | refine w_ret ?_ | refine w_ops ?_ | ((refine i_cond ?_); refine w_condT rfl ?_) | ((refine i_nil ?_); first | refine w_end1 rfl ?_ | refine w_end4 rfl rfl rfl rfl ?_) | ((refine i_cons ?_); first | (have z := eE; refine k_newst rfl ?_; intro hG eG c15; have c13G := (c13.ext eE).ext eG; have irG := (irD.ext eE).ext eG) | (refine k_newst rfl ?_; intro hD eD c13; have irD := ir.ext eD; have stD := (((st9.ext eA).ext eB).ext eC).ext eD) | (refine k_call rfl (k12a hh st9.e) ?_; rintro v hA ⟨eA, sp, rfl, ip⟩) | (refine k_call rfl (k12b hA (st9.e.trans eA)) ?_; rintro v hB ⟨eB, sq, rfl, iq⟩; have ipB := ip.ext eB) | (refine k_call rfl (k13 hB _ _ ipB iq) ?_; rintro v hC ⟨eC, sr, rfl, ir⟩) | refine k_ldC rfl stD.c9 ?_ | refine k_ldC rfl stD.c10 ?_ | (refine k_call rfl (k19 hD _ _ stD.d1 stD.d2) ?_; rintro v hE ⟨eE, rfl⟩) | refine k_ldC rfl c13G ?_ | (refine k_call rfl (k15z hG _ irG) ?_; rintro v hI ⟨eI, rfl⟩) | refine k_want rfl ?_ | refine k_mv rfl ?_ | refine k_pickT rfl rfl ?_ | refine k_notF rfl ?_ | refine k_eqlT rfl rfl (by omega) ?_ | refine k_ok rfl rfl ?_))
    exact ⟨.inr rfl, rfl⟩
end Go.Proofs.YtlnjddjobbhcaaaDoor
