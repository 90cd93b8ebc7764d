/- Sums: contracts. -/
import Derived.Test.YtlnjddjobbhcaaaDoorV2
namespace Go.Proofs.YtlnjddjobbhcaaaDoor
open Go.Ab
set_option linter.unusedVariables false
set_option linter.unusedSimpArgs false
set_option maxRecDepth 20000
set_option maxHeartbeats 8000000
attribute [local irreducible] wOps wA wSeq wBlk wRound wRoundI wOpsD wOpsS

structure Cb (h0 h : Heap) (q3 q4 q5 q6 q7 q8 : Nat) (sp sq s : SV) (F : Bool) (r : List Tm) : Prop where
  e : Ext h0 h
  c3 : Cel h q3 (.bool false) sp
  c4 : Cel h q4 (.bool false) sq
  c5 : Cel1 h q5 (.fn 54 [])
  c6 : Cel h q6 (.bool false) .nilS
  c7 : Cel h q7 (.bool false) s
  c8 : Cel1 h q8 (.bool F)
  o : OwnD h0 h s (tms r)
  ord : h0.length ≤ q3 ∧ q3 < q4 ∧ q4 < q5 ∧ q5 < q6 ∧ q6 < q7 ∧ q7 < q8
theorem Cb.ext {h0 h h' : Heap} {q3 q4 q5 q6 q7 q8 : Nat} {sp sq s : SV} {F : Bool} {r : List Tm} (u : Cb h0 h q3 q4 q5 q6 q7 q8 sp sq s F r) (e : Ext h h') : Cb h0 h' q3 q4 q5 q6 q7 q8 sp sq s F r :=
  ⟨u.e.trans e, u.c3.ext e, u.c4.ext e, u.c5.ext e, u.c6.ext e, u.c7.ext e, u.c8.ext e, u.o.ext e, u.ord⟩
theorem cel_st {h : Heap} {q p : Nat} {a b : SV} (c : Cel h q a b) (hn : p ≠ q) (x : Blk) : Cel (h.set p x) q a b := by
  unfold Cel at *
  rw [List.getElem?_set_ne hn]; exact c
theorem cel1_wr {h h1 : Heap} {q p : Nat} {a x y : SV} (c : Cel1 h q a) (w : Wr h h1 p x y) (hn : p ≠ q) : Cel1 h1 q a := by
  rw [w.eq]; exact c.set hn _
theorem Cb.st8 {h0 h h1 : Heap} {q3 q4 q5 q6 q7 q8 : Nat} {sp sq s : SV} {F G : Bool} {r : List Tm} (u : Cb h0 h q3 q4 q5 q6 q7 q8 sp sq s F r) (hh : h1 = h.set q8 (.cells [.bool G] true 0)) (c : Cel1 h1 q8 (.bool G)) : Cb h0 h1 q3 q4 q5 q6 q7 q8 sp sq s G r := by
  have o := u.ord
  subst hh
  exact ⟨u.e.set (by omega) _, cel_st u.c3 (by omega) _, cel_st u.c4 (by omega) _, u.c5.set (by omega) _, cel_st u.c6 (by omega) _, cel_st u.c7 (by omega) _, c, u.o.set (u.o.cel u.c8) _, o⟩
theorem Cb.push {h0 h h6 h7 : Heap} {q3 q4 q5 q6 q7 q8 : Nat} {sp sq s s' : SV} {F : Bool} {r r' : List Tm} (u : Cb h0 h q3 q4 q5 q6 q7 q8 sp sq s F r) (o6 : OwnD h0 h6 s' (tms r')) (e6 : Ext h0 h6) (f6 : Fram h h6 s s') (w7 : Wr h6 h7 q7 (.bool false) s') : Cb h0 h7 q3 q4 q5 q6 q7 q8 sp sq s' F r' := by
  have o := u.ord
  exact ⟨w7.ext e6 (by omega), w7.keep (u.c3.fram f6 (u.o.cel u.c3)) (by omega), w7.keep (u.c4.fram f6 (u.o.cel u.c4)) (by omega), cel1_wr (u.c5.fram f6 (u.o.cel u.c5)) w7 (by omega), w7.keep (u.c6.fram f6 (u.o.cel u.c6)) (by omega), w7.cel, cel1_wr (u.c8.fram f6 (u.o.cel u.c8)) w7 (by omega), o6.wrC w7, o⟩
theorem call54 (h0 : Heap) (a b : Int) (ha : a.natAbs ≤ cM) (hb : b.natAbs ≤ cM) : ∃ r h', Cal FT HKt 54 ([.sc (.int .i64 a), .sc (.int .i64 b)] ++ ([] : List (Nat × Nat)).map fun p => AV.sc (.ptr p.1 p.2)) h0 r h' ∧ r = .sc (.int .i64 (a + b)) ∧ h' = h0 := by
  refine Cal.of (F := a54) rfl rfl rfl ?_
  simp only [cM] at ha hb
  repeat' (first | refine w_seq ?_ | refine w_seqN ?_ | refine w_ret ?_ | refine w_ops ?_ | ((refine i_nil ?_); first | refine w_end1 rfl ?_ | refine w_end2 rfl rfl ?_) | ((refine i_cons ?_); first | refine k_mv rfl ?_ | refine k_add rfl rfl (by omega) ?_))
  exact ⟨.inr rfl, rfl, rfl⟩
def fitB (F : Bool) (c : Int) : Bool := F && decide (c.natAbs ≤ cM)
theorem call82 (h0 h : Heap) (q3 q4 q5 q6 q7 q8 : Nat) (sp sq s : SV) (F : Bool) (r : List Tm) (e a b : Int) (u : Cb h0 h q3 q4 q5 q6 q7 q8 sp sq s F r) (ha : a.natAbs ≤ cM) (hb : b.natAbs ≤ cM) (hl : r.length ≤ 5000000) :
    ∃ v h', Cal FT HKt 82 [.sc (.int .i64 e), .sc (.int .i64 a), .sc (.int .i64 b), .sc (.ptr q5 0), .sc (.ptr q8 0), .sc (.ptr q7 0)] h v h' ∧ ∃ s', Cb h0 h' q3 q4 q5 q6 q7 q8 sp sq s' (fitB F (a + b)) (r ++ put e (a + b)) := by
  refine Cal.of (F := a82) rfl rfl rfl ?_
  have k54 := call54 h a b ha hb
  simp only [cM] at ha hb
  have k35 := fun H => call35 H (a + b) 1125899906842624 (by omega)
  have hd : ∀ F', fitB F' (a + b) = (F' && decide ((a + b).natAbs ≤ (1125899906842624 : Int).toNat)) := fun _ => rfl
  rw [hd]
  generalize decide ((a + b).natAbs ≤ (1125899906842624 : Int).toNat) = D at *
  generalize hC : a + b = C at *
  have c5 := u.c5.at
  have c8 := u.c8.at
  cases F <;> by_cases hz : C = 0
  · have hp : r ++ put e C = r := by unfold put; rw [if_pos hz, List.append_nil]
    rw [hp]
    repeat' (first | refine w_seq ?_ | refine w_seqN ?_ | refine w_skip ?_ | refine w_ops ?_ | ((refine i_cond ?_); refine w_condF rfl ?_) | ((refine i_nil ?_); first | refine w_end3 rfl rfl rfl ?_ | refine w_end4 rfl rfl rfl rfl ?_) | ((refine i_cons ?_); first | refine k_ldb rfl c5 rfl ?_ | refine k_ldb rfl c8 rfl ?_ | (refine k_callvC rfl rfl k54 ?_; rintro v _ ⟨rfl, rfl⟩) | (refine k_st1' rfl rfl u.c8 ?_; intro h2 w2 c8'; have u2 := u.st8 (G := false) w2 c8') | refine k_skip rfl ?_ | refine k_mv rfl ?_ | refine k_pickF rfl rfl ?_ | refine k_neqF rfl rfl (by omega) ?_))
    exact ⟨.inl rfl, s, u2⟩
  · have hp : r ++ put e C = r ++ [(e, C)] := by unfold put; rw [if_neg hz]
    rw [hp]
    repeat' (first | refine w_seq ?_ | refine w_seqN ?_ | refine w_ops ?_ | ((refine i_cond ?_); refine w_condT rfl ?_) | ((refine i_nil ?_); first | refine w_end3 rfl rfl rfl ?_ | refine w_end4 rfl rfl rfl rfl ?_) | ((refine i_cons ?_); first | refine k_ldb rfl c5 rfl ?_ | refine k_ldb rfl c8 rfl ?_ | (refine k_callvC rfl rfl k54 ?_; rintro v _ ⟨rfl, rfl⟩) | (refine k_st1' rfl rfl u.c8 ?_; intro h2 w2 c8'; have u2 := u.st8 (G := false) w2 c8') | refine k_fldA rfl ?_ | refine k_ldC1 rfl u2.c7 ?_ | (refine k_bld rfl rfl ?_) | (refine k_pushD u2.e u2.o rfl rfl (by rw [tms_len]; simp only [bigN]; omega) ?_; intro s' h6 o6 e6 f6 l6; have cX6 := u2.c7.fram f6 (u2.o.cel u2.c7); have o6' : OwnD h0 h6 s' (tms (r ++ [(e, C)])) := (by simpa [tms, tmP] using o6)) | (refine k_stC1 rfl rfl cX6 ?_; intro h7 w7; have u7 := u2.push o6' e6 f6 w7) | refine k_skip rfl ?_ | refine k_mv rfl ?_ | refine k_pickF rfl rfl ?_ | refine k_neqT rfl rfl (by omega) ?_))
    refine w_nilK ?_
    exact ⟨.inl rfl, s', u7⟩
  · have hp : r ++ put e C = r := by unfold put; rw [if_pos hz, List.append_nil]
    rw [hp]
    repeat' (first | refine w_seq ?_ | refine w_seqN ?_ | refine w_skip ?_ | refine w_ops ?_ | ((refine i_cond ?_); refine w_condF rfl ?_) | ((refine i_nil ?_); first | refine w_end3 rfl rfl rfl ?_ | refine w_end4 rfl rfl rfl rfl ?_) | ((refine i_cons ?_); first | refine k_ldb rfl c5 rfl ?_ | refine k_ldb rfl c8 rfl ?_ | (refine k_callvC rfl rfl k54 ?_; rintro v _ ⟨rfl, rfl⟩) | (refine k_call rfl (k35 _) ?_; rintro v _ ⟨rfl, rfl⟩) | (refine k_st1' rfl rfl u.c8 ?_; intro h2 w2 c8'; have u2 := u.st8 (G := D) w2 c8') | refine k_want rfl ?_ | refine k_mv rfl ?_ | refine k_pickT rfl rfl ?_ | refine k_neqF rfl rfl (by omega) ?_))
    exact ⟨.inl rfl, s, u2⟩
  · have hp : r ++ put e C = r ++ [(e, C)] := by unfold put; rw [if_neg hz]
    rw [hp]
    repeat' (first | refine w_seq ?_ | refine w_seqN ?_ | refine w_ops ?_ | ((refine i_cond ?_); refine w_condT rfl ?_) | ((refine i_nil ?_); first | refine w_end3 rfl rfl rfl ?_ | refine w_end4 rfl rfl rfl rfl ?_) | ((refine i_cons ?_); first | refine k_ldb rfl c5 rfl ?_ | refine k_ldb rfl c8 rfl ?_ | (refine k_callvC rfl rfl k54 ?_; rintro v _ ⟨rfl, rfl⟩) | (refine k_call rfl (k35 _) ?_; rintro v _ ⟨rfl, rfl⟩) | (refine k_st1' rfl rfl u.c8 ?_; intro h2 w2 c8'; have u2 := u.st8 (G := D) w2 c8') | refine k_fldA rfl ?_ | refine k_ldC1 rfl u2.c7 ?_ | (refine k_bld rfl rfl ?_) | (refine k_pushD u2.e u2.o rfl rfl (by rw [tms_len]; simp only [bigN]; omega) ?_; intro s' h6 o6 e6 f6 l6; have cX6 := u2.c7.fram f6 (u2.o.cel u2.c7); have o6' : OwnD h0 h6 s' (tms (r ++ [(e, C)])) := (by simpa [tms, tmP] using o6)) | (refine k_stC1 rfl rfl cX6 ?_; intro h7 w7; have u7 := u2.push o6' e6 f6 w7) | refine k_want rfl ?_ | refine k_mv rfl ?_ | refine k_pickT rfl rfl ?_ | refine k_neqT rfl rfl (by omega) ?_))
    refine w_nilK ?_
    exact ⟨.inl rfl, s', u7⟩
def mA : List Tm → List Tm → List Tm := mrg fun a b => a + b
def fitL (l : List Tm) : Prop := ∀ t ∈ l, t.2.natAbs ≤ cM
theorem fit_put {F : Bool} {e c : Int} {M : List Tm} : (F = true ∧ fitL (put e c ++ M)) ↔ (fitB F c = true ∧ fitL M) := by
  unfold fitL fitB
  simp only [Bool.and_eq_true, decide_eq_true_eq, List.mem_append]
  constructor
  · rintro ⟨h1, h2⟩
    refine ⟨⟨h1, ?_⟩, fun t ht => h2 t (.inr ht)⟩
    by_cases hz : c = 0
    · subst hz; simp
    · exact h2 (e, c) (.inl (by unfold put; rw [if_neg hz]; simp))
  · rintro ⟨⟨h1, h2⟩, h3⟩
    refine ⟨h1, fun t ht => ht.elim (fun ht => ?_) (h3 t)⟩
    rw [(put_mem ht).1]; exact h2
theorem put_len (e c : Int) : (put e c).length ≤ 1 := by unfold put; split <;> simp
structure Mg (p q : List Tm) (i j : Nat) (F : Bool) (r : List Tm) : Prop where
  eq : mA p q = r ++ mA (p.drop i) (q.drop j)
  ft : fitL (mA p q) ↔ (F = true ∧ fitL (mA (p.drop i) (q.drop j)))
  ln : r.length ≤ i + j
theorem Mg.step {p q : List Tm} {i j i' j' : Nat} {F : Bool} {r : List Tm} (g : Mg p q i j F r) {e c : Int} (h : mA (p.drop i) (q.drop j) = put e c ++ mA (p.drop i') (q.drop j')) (hl : i + j < i' + j') : Mg p q i' j' (fitB F c) (r ++ put e c) :=
  ⟨by rw [g.eq, h, List.append_assoc], by rw [g.ft, h, fit_put], by have := g.ln; have := put_len e c; rw [List.length_append]; omega⟩
theorem mA_l {t : Tm} {p : List Tm} : mA (t :: p) [] = put t.1 (t.2 + 0) ++ mA p [] := by unfold mA; rw [mrg]
theorem mA_r {u : Tm} {q : List Tm} : mA [] (u :: q) = put u.1 (0 + u.2) ++ mA [] q := by unfold mA; rw [mrg]
theorem mA_lt {t u : Tm} {p q : List Tm} (h : t.1 < u.1) : mA (t :: p) (u :: q) = put t.1 (t.2 + 0) ++ mA p (u :: q) := by unfold mA; rw [mrg, if_pos h]
theorem mA_gt {t u : Tm} {p q : List Tm} (h : u.1 < t.1) : mA (t :: p) (u :: q) = put u.1 (0 + u.2) ++ mA (t :: p) q := by unfold mA; rw [mrg, if_neg (by omega), if_pos h]
theorem mA_eq {t u : Tm} {p q : List Tm} (h : t.1 = u.1) : mA (t :: p) (u :: q) = put t.1 (t.2 + u.2) ++ mA p q := by unfold mA; rw [mrg, if_neg (by omega), if_neg (by omega)]
def I53 (h0 : Heap) (q3 q4 q5 q6 q7 q8 : Nat) (sp sq : SV) (p q : List Tm) (E : Env) (h : Heap) : Prop := ∃ (i j : Nat) (s : SV) (F : Bool) (r : List Tm), i ≤ p.length ∧ j ≤ q.length ∧ Cb h0 h q3 q4 q5 q6 q7 q8 sp sq s F r ∧ Mg p q i j F r ∧
  E.keep [3, 4, 6, 7, 8, 9, 10, 11] = [(3, some (.sc (.ptr q3 0))), (4, some (.sc (.ptr q4 0))), (6, some (.sc (.ptr q6 0))), (7, some (.sc (.ptr q7 0))), (8, some (.sc (.ptr q8 0))), (9, some (.sc (.fn 82 [(q5, 0), (q8, 0), (q7, 0)]))), (10, some (.sc (.int .i64 (i : Nat)))), (11, some (.sc (.int .i64 (j : Nat))))]
def R53 (h0 : Heap) (q3 q4 q5 q6 q7 q8 : Nat) (sp sq : SV) (p q : List Tm) (ex : Ex) (E : Env) (h : Heap) : Prop := ex = .ex 0 ∧ ∃ (s : SV) (F : Bool), Cb h0 h q3 q4 q5 q6 q7 q8 sp sq s F (mA p q) ∧ (fitL (mA p q) ↔ F = true) ∧ ∃ a b c d e f,
  E = [(3, a), (4, b), (6, some (.sc (.ptr q6 0))), (7, some (.sc (.ptr q7 0))), (8, some (.sc (.ptr q8 0))), (9, c), (10, d), (11, e), (40, f)]
def qC (p q : List Tm) (E : Env) (_ : Heap) : Nat := match (E.keep [3, 4, 6, 7, 8, 9, 10, 11]).get 10, (E.keep [3, 4, 6, 7, 8, 9, 10, 11]).get 11 with | some (.sc (.int .i64 i)), some (.sc (.int .i64 j)) => p.length + q.length - (i + j).toNat | _, _ => 0
end Go.Proofs.YtlnjddjobbhcaaaDoor


/- Sums: the loop, and Add. -/
namespace Go.Proofs.YtlnjddjobbhcaaaDoor
open Go.Ab
set_option linter.unusedVariables false
set_option linter.unusedSimpArgs false
set_option maxRecDepth 20000
set_option maxHeartbeats 8000000
attribute [local irreducible] wOps wA wSeq wBlk wRound wRoundI wOpsD wOpsS

theorem round53 (h0 : Heap) (q3 q4 q5 q6 q7 q8 : Nat) (sp sq : SV) (p q : List Tm) (hp : IsD h0 sp (tms p)) (hq : IsD h0 sq (tms q)) (fp : ∀ t ∈ p, t.2.natAbs ≤ cM ∧ t.1.natAbs ≤ eM) (fq : ∀ t ∈ q, t.2.natAbs ≤ cM ∧ t.1.natAbs ≤ eM) (pl : p.length ≤ 2097153) (ql : q.length ≤ 2097153) (E : Env) (h : Heap) (hI : I53 h0 q3 q4 q5 q6 q7 q8 sp sq p q E h) :
    wA FT HKt b53L0 (E.keep [3, 4, 6, 7, 8, 9, 10, 11]) h (wRound (I53 h0 q3 q4 q5 q6 q7 q8 sp sq p q) (qC p q) (qC p q E h) (R53 h0 q3 q4 q5 q6 q7 q8 sp sq p q)) := by
  obtain ⟨i, j, s, F, r, hi, hj, u, g, hE⟩ := hI
  have hm : qC p q E h = p.length + q.length - (i + j) := by unfold qC; rw [hE]; show p.length + q.length - ((i : Int) + (j : Int)).toNat = _; omega
  rw [hm, hE]
  have lp := hp.len
  have lq := hq.len
  rw [tms_len] at lp lq
  have gl := g.ln
  have rl : r.length ≤ 5000000 := by omega
  have z0 : (0 : Int).natAbs ≤ cM := by simp
  have fin : ∀ i' j' : Nat, i + j < i' + j' → i' ≤ p.length → j' ≤ q.length → p.length + q.length - (i' + j') < p.length + q.length - (i + j) := fun i' j' a b c => by omega
  by_cases hip : i < p.length
  · obtain ⟨t, ht⟩ : ∃ t, p[i]? = some t := ⟨_, List.getElem?_eq_getElem hip⟩
    obtain ⟨tc, te⟩ := fp t (List.mem_of_getElem? ht)
    obtain ⟨id1, off1, cap1, e1, r1⟩ := hp.at (i := i) (p := tmP t) (by simp [ht])
    rw [tms_len] at e1
    subst e1
    have rp := readN_ext u.e r1
    obtain ⟨rp1, rp2⟩ := rd1 rp
    by_cases hjq : j < q.length
    · obtain ⟨v, hv⟩ : ∃ v, q[j]? = some v := ⟨_, List.getElem?_eq_getElem hjq⟩
      obtain ⟨vc, ve⟩ := fq v (List.mem_of_getElem? hv)
      obtain ⟨id2, off2, cap2, e2, r2⟩ := hq.at (i := j) (p := tmP v) (by simp [hv])
      rw [tms_len] at e2
      subst e2
      have rq := readN_ext u.e r2
      obtain ⟨rq1, rq2⟩ := rd1 rq
      by_cases hlt : t.1 < v.1
      · have g2 := g.step (i' := i + 1) (j' := j) (by rw [drop_cons' ht, drop_cons' hv]; exact mA_lt hlt) (by omega)
        have k82 := call82 h0 h q3 q4 q5 q6 q7 q8 _ _ s F r t.1 t.2 0 u tc z0 rl
        repeat' (first | refine w_seq ?_ | refine w_seqN ?_ | refine w_blk ?_ | refine w_blkN ?_ | refine w_skip ?_ | refine w_ops ?_ | refine w_opsD ?_ | refine d_one ?_ | refine d_nil ?_ | ((refine i_cond ?_); refine w_condT rfl ?_) | ((refine i_nil ?_); first | refine d_same ?_ | refine d_ord ?_ | refine w_end8 rfl rfl rfl rfl rfl rfl rfl rfl ?_ | refine w_end9 rfl rfl rfl rfl rfl rfl rfl rfl rfl ?_) | ((refine i_cons ?_); first | refine k_fldA rfl ?_ | refine k_ldC1 rfl u.c3 ?_ | refine k_ldC1 rfl u.c4 ?_ | refine k_len rfl lp ?_ | refine k_len rfl lq ?_ | refine k_idxA (esz := 2) rfl rfl (by omega) ?_ | refine k_ld rfl rp1 ?_ | refine k_ld rfl rp2 ?_ | refine k_ld rfl rq1 ?_ | (refine k_callvC rfl rfl k82 ?_; rintro w h2 ⟨s', u2⟩) | refine k_skip rfl ?_ | refine k_want rfl ?_ | refine k_mv rfl ?_ | refine k_pickT rfl rfl ?_ | refine k_pickF rfl rfl ?_ | refine k_add rfl rfl (by omega) ?_ | refine k_lssT rfl rfl (by omega) ?_ | refine k_eqlF rfl rfl (by omega) ?_))
        exact w_roundN ⟨i + 1, j, s', _, _, by omega, hj, u2, g2, rfl⟩ (by unfold qC; show p.length + q.length - (((i : Nat) : Int) + 1 + (j : Int)).toNat < _; omega)
      · by_cases hgt : v.1 < t.1
        · have g2 := g.step (i' := i) (j' := j + 1) (by rw [drop_cons' ht, drop_cons' hv]; exact mA_gt hgt) (by omega)
          have k82 := call82 h0 h q3 q4 q5 q6 q7 q8 _ _ s F r v.1 0 v.2 u z0 vc rl
          repeat' (first | refine w_seq ?_ | refine w_seqN ?_ | refine w_blk ?_ | refine w_blkN ?_ | refine w_skip ?_ | refine w_ops ?_ | refine w_opsD ?_ | refine d_one ?_ | refine d_nil ?_ | ((refine i_cond ?_); first | refine w_condT rfl ?_ | refine w_condF rfl ?_) | ((refine i_nil ?_); first | refine d_same ?_ | refine d_ord ?_ | refine w_end8 rfl rfl rfl rfl rfl rfl rfl rfl ?_ | refine w_end9 rfl rfl rfl rfl rfl rfl rfl rfl rfl ?_) | ((refine i_cons ?_); first | refine k_fldA rfl ?_ | refine k_ldC1 rfl u.c3 ?_ | refine k_ldC1 rfl u.c4 ?_ | refine k_len rfl lp ?_ | refine k_len rfl lq ?_ | refine k_idxA (esz := 2) rfl rfl (by omega) ?_ | refine k_ld rfl rp1 ?_ | refine k_ld rfl rq1 ?_ | refine k_ld rfl rq2 ?_ | (refine k_callvC rfl rfl k82 ?_; rintro w h2 ⟨s', u2⟩) | refine k_skip rfl ?_ | refine k_want rfl ?_ | refine k_mv rfl ?_ | refine k_pickT rfl rfl ?_ | refine k_pickF rfl rfl ?_ | refine k_add rfl rfl (by omega) ?_ | refine k_lssT rfl rfl (by omega) ?_ | refine k_lssF rfl rfl (by omega) ?_ | refine k_eqlF rfl rfl (by omega) ?_))
          exact w_roundN ⟨i, j + 1, s', _, _, hi, by omega, u2, g2, rfl⟩ (by unfold qC; show p.length + q.length - ((i : Int) + (((j : Nat) : Int) + 1)).toNat < _; omega)
        · have heq : t.1 = v.1 := by omega
          have g2 := g.step (i' := i + 1) (j' := j + 1) (by rw [drop_cons' ht, drop_cons' hv]; exact mA_eq heq) (by omega)
          have k82 := call82 h0 h q3 q4 q5 q6 q7 q8 _ _ s F r t.1 t.2 v.2 u tc vc rl
          repeat' (first | refine w_seq ?_ | refine w_seqN ?_ | refine w_blk ?_ | refine w_blkN ?_ | refine w_skip ?_ | refine w_ops ?_ | refine w_opsD ?_ | refine d_one ?_ | refine d_nil ?_ | ((refine i_cond ?_); first | refine w_condT rfl ?_ | refine w_condF rfl ?_) | ((refine i_nil ?_); first | refine d_same ?_ | refine d_ord ?_ | refine w_end8 rfl rfl rfl rfl rfl rfl rfl rfl ?_ | refine w_end9 rfl rfl rfl rfl rfl rfl rfl rfl rfl ?_) | ((refine i_cons ?_); first | refine k_fldA rfl ?_ | refine k_ldC1 rfl u.c3 ?_ | refine k_ldC1 rfl u.c4 ?_ | refine k_len rfl lp ?_ | refine k_len rfl lq ?_ | refine k_idxA (esz := 2) rfl rfl (by omega) ?_ | refine k_ld rfl rp1 ?_ | refine k_ld rfl rp2 ?_ | refine k_ld rfl rq1 ?_ | refine k_ld rfl rq2 ?_ | (refine k_callvC rfl rfl k82 ?_; rintro w h2 ⟨s', u2⟩) | refine k_skip rfl ?_ | refine k_want rfl ?_ | refine k_mv rfl ?_ | refine k_pickT rfl rfl ?_ | refine k_pickF rfl rfl ?_ | refine k_add rfl rfl (by omega) ?_ | refine k_lssT rfl rfl (by omega) ?_ | refine k_lssF rfl rfl (by omega) ?_ | refine k_eqlF rfl rfl (by omega) ?_))
          exact w_roundN ⟨i + 1, j + 1, s', _, _, by omega, by omega, u2, g2, rfl⟩ (by unfold qC; show p.length + q.length - (((i : Nat) : Int) + 1 + (((j : Nat) : Int) + 1)).toNat < _; omega)
    · have hjn : j = q.length := by omega
      subst hjn
      have g2 := g.step (i' := i + 1) (j' := q.length) (by rw [drop_cons' ht, List.drop_length]; exact mA_l) (by omega)
      have k82 := call82 h0 h q3 q4 q5 q6 q7 q8 _ _ s F r t.1 t.2 0 u tc z0 rl
      repeat' (first | refine w_seq ?_ | refine w_seqN ?_ | refine w_blk ?_ | refine w_blkN ?_ | refine w_skip ?_ | refine w_ops ?_ | refine w_opsD ?_ | refine d_one ?_ | refine d_nil ?_ | ((refine i_cond ?_); refine w_condT rfl ?_) | ((refine i_nil ?_); first | refine d_same ?_ | refine d_ord ?_ | refine w_end8 rfl rfl rfl rfl rfl rfl rfl rfl ?_ | refine w_end9 rfl rfl rfl rfl rfl rfl rfl rfl rfl ?_) | ((refine i_cons ?_); first | refine k_fldA rfl ?_ | refine k_ldC1 rfl u.c3 ?_ | refine k_ldC1 rfl u.c4 ?_ | refine k_len rfl lp ?_ | refine k_len rfl lq ?_ | refine k_idxA (esz := 2) rfl rfl (by omega) ?_ | refine k_ld rfl rp1 ?_ | refine k_ld rfl rp2 ?_ | (refine k_callvC rfl rfl k82 ?_; rintro w h2 ⟨s', u2⟩) | refine k_skip rfl ?_ | refine k_skipU rfl ?_ | refine k_mv rfl ?_ | refine k_pickT rfl rfl ?_ | refine k_add rfl rfl (by omega) ?_ | refine k_lssT rfl rfl (by omega) ?_ | refine k_eqlT rfl rfl (by omega) ?_))
      exact w_roundN ⟨i + 1, q.length, s', _, _, by omega, hj, u2, g2, rfl⟩ (by unfold qC; show p.length + q.length - (((i : Nat) : Int) + 1 + (q.length : Int)).toNat < _; omega)
  · have hin : i = p.length := by omega
    subst hin
    by_cases hjq : j < q.length
    · obtain ⟨v, hv⟩ : ∃ v, q[j]? = some v := ⟨_, List.getElem?_eq_getElem hjq⟩
      obtain ⟨vc, ve⟩ := fq v (List.mem_of_getElem? hv)
      obtain ⟨id2, off2, cap2, e2, r2⟩ := hq.at (i := j) (p := tmP v) (by simp [hv])
      rw [tms_len] at e2
      subst e2
      have rq := readN_ext u.e r2
      obtain ⟨rq1, rq2⟩ := rd1 rq
      have g2 := g.step (i' := p.length) (j' := j + 1) (by rw [drop_cons' hv, List.drop_length]; exact mA_r) (by omega)
      have k82 := call82 h0 h q3 q4 q5 q6 q7 q8 _ _ s F r v.1 0 v.2 u z0 vc rl
      repeat' (first | refine w_seq ?_ | refine w_seqN ?_ | refine w_blk ?_ | refine w_blkN ?_ | refine w_skip ?_ | refine w_ops ?_ | refine w_opsD ?_ | refine d_one ?_ | refine d_nil ?_ | ((refine i_cond ?_); first | refine w_condT rfl ?_ | refine w_condF rfl ?_) | ((refine i_nil ?_); first | refine d_same ?_ | refine d_ord ?_ | refine w_end8 rfl rfl rfl rfl rfl rfl rfl rfl ?_ | refine w_end9 rfl rfl rfl rfl rfl rfl rfl rfl rfl ?_) | ((refine i_cons ?_); first | refine k_fldA rfl ?_ | refine k_ldC1 rfl u.c3 ?_ | refine k_ldC1 rfl u.c4 ?_ | refine k_len rfl lp ?_ | refine k_len rfl lq ?_ | refine k_idxA (esz := 2) rfl rfl (by omega) ?_ | refine k_ld rfl rq1 ?_ | refine k_ld rfl rq2 ?_ | (refine k_callvC rfl rfl k82 ?_; rintro w h2 ⟨s', u2⟩) | refine k_skip rfl ?_ | refine k_want rfl ?_ | refine k_mv rfl ?_ | refine k_pickT rfl rfl ?_ | refine k_pickF rfl rfl ?_ | refine k_add rfl rfl (by omega) ?_ | refine k_lssT rfl rfl (by omega) ?_ | refine k_lssF rfl rfl (by omega) ?_ | refine k_eqlT rfl rfl (by omega) ?_ | refine k_eqlF rfl rfl (by omega) ?_))
      exact w_roundN ⟨p.length, j + 1, s', _, _, hi, by omega, u2, g2, rfl⟩ (by unfold qC; show p.length + q.length - ((p.length : Int) + (((j : Nat) : Int) + 1)).toNat < _; omega)
    · have hjn : j = q.length := by omega
      subst hjn
      repeat' (first | refine w_seq ?_ | refine w_seqN ?_ | refine w_seqX ?_ | refine w_exit ?_ | refine w_ops ?_ | ((refine i_cond ?_); refine w_condF rfl ?_) | ((refine i_nil ?_); refine w_end9 rfl rfl rfl rfl rfl rfl rfl rfl rfl ?_) | ((refine i_cons ?_); first | refine k_fldA rfl ?_ | refine k_ldC1 rfl u.c3 ?_ | refine k_ldC1 rfl u.c4 ?_ | refine k_len rfl lp ?_ | refine k_len rfl lq ?_ | refine k_want rfl ?_ | refine k_mv rfl ?_ | refine k_pickF rfl rfl ?_ | refine k_lssF rfl rfl (by omega) ?_))
      have h1 := g.eq
      have h2 := g.ft
      have e0 : mA [] [] = [] := by unfold mA; rw [mrg]
      rw [List.drop_length, List.drop_length, e0] at h1 h2
      rw [List.append_nil] at h1
      rw [← h1] at u
      exact w_roundX ⟨rfl, s, F, u, h2.trans ⟨fun h => h.1, fun h => ⟨h, fun t ht => absurd ht (by simp)⟩⟩, _, _, _, _, _, _, rfl⟩
open Classical in
noncomputable def addP (p q : Pol) : Pol := if p.big = true ∨ q.big = true then bigP else if fitL (mA p.ts q.ts) then ⟨false, mA p.ts q.ts⟩ else bigP
theorem call53 (h0 : Heap) (sp sq : SV) (p q : Pol) (hp : IsD h0 sp (tms p.ts)) (hq : IsD h0 sq (tms q.ts)) (kp : Pok p) (kq : Pok q) :
    ∃ r h', Cal FT HKt 53 [.agg [.bool p.big, sp], .agg [.bool q.big, sq], .sc (.fn 54 [])] h0 r h' ∧ Ext h0 h' ∧ IsPol h' r (addP p q) := by
  refine Cal.of (F := a53) rfl rfl rfl ?_
  have lp := hp.len
  have lq := hq.len
  rw [tms_len] at lp lq
  by_cases hbp : p.big = true
  · have e : addP p q = bigP := by unfold addP; rw [if_pos (.inl hbp)]
    rw [e, hbp]
    repeat' (first | refine w_seq ?_ | refine w_seqN ?_ | refine w_seqR ?_ | refine w_ret ?_ | refine w_ops ?_ | ((refine i_cond ?_); refine w_condT rfl ?_) | ((refine i_nil ?_); first | refine w_end1 rfl ?_ | refine w_end4 rfl rfl rfl rfl ?_ | refine w_end5 rfl rfl rfl rfl rfl ?_) | ((refine i_cons ?_); first | (have z := e5; refine k_newC ?_; intro h6 e6 c6; have d3 := c3.ext (e4.trans (e5.trans e6))) | (have z := e4; refine k_box1 rfl ?_; intro h5 e5 c5) | (have z := e3; refine k_boxC rfl ?_; intro h4 e4 c4) | (refine k_boxC rfl ?_; intro h3 e3 c3) | refine k_ldC0 rfl d3 ?_ | (refine k_bld rfl rfl ?_) | (refine k_stC rfl rfl c6 ?_; intro h7 w7) | refine k_skip rfl ?_ | refine k_mv rfl ?_ | refine k_pickT rfl rfl ?_ | refine k_ok rfl rfl ?_))
    exact ⟨.inr rfl, oK_cell rfl w7.cel.read ⟨w7.ext (e3.trans (e4.trans (e5.trans e6))) (Nat.le_trans e3.len (Nat.le_trans e4.len e5.len)), .nilS, rfl, IsD.nil _⟩⟩
  have hbp' : p.big = false := by simpa using hbp
  rw [hbp']
  by_cases hbq : q.big = true
  · have e : addP p q = bigP := by unfold addP; rw [if_pos (.inr hbq)]
    rw [e, hbq]
    repeat' (first | refine w_seq ?_ | refine w_seqN ?_ | refine w_seqR ?_ | refine w_ret ?_ | refine w_ops ?_ | ((refine i_cond ?_); refine w_condT rfl ?_) | ((refine i_nil ?_); first | refine w_end1 rfl ?_ | refine w_end4 rfl rfl rfl rfl ?_ | refine w_end5 rfl rfl rfl rfl rfl ?_) | ((refine i_cons ?_); first | (have z := e5; refine k_newC ?_; intro h6 e6 c6; have d3 := c3.ext (e4.trans (e5.trans e6)); have d4 := c4.ext (e5.trans e6)) | (have z := e4; refine k_box1 rfl ?_; intro h5 e5 c5) | (have z := e3; refine k_boxC rfl ?_; intro h4 e4 c4) | (refine k_boxC rfl ?_; intro h3 e3 c3) | refine k_ldC0 rfl d3 ?_ | refine k_ldC0 rfl d4 ?_ | (refine k_bld rfl rfl ?_) | (refine k_stC rfl rfl c6 ?_; intro h7 w7) | refine k_want rfl ?_ | refine k_mv rfl ?_ | refine k_pickF rfl rfl ?_ | refine k_ok rfl rfl ?_))
    exact ⟨.inr rfl, oK_cell rfl w7.cel.read ⟨w7.ext (e3.trans (e4.trans (e5.trans e6))) (Nat.le_trans e3.len (Nat.le_trans e4.len e5.len)), .nilS, rfl, IsD.nil _⟩⟩
  have hbq' : q.big = false := by simpa using hbq
  rw [hbq']
  have nb : ¬ (p.big = true ∨ q.big = true) := fun h => h.elim hbp hbq
  have pl := kp.len
  have ql := kq.len
  repeat' (first | refine w_seq ?_ | refine w_seqN ?_ | refine w_blk ?_ | refine w_skip ?_ | refine w_ops ?_ | ((refine i_cond ?_); refine w_condF rfl ?_) | ((refine i_nil ?_); first | refine w_end4 rfl rfl rfl rfl ?_ | refine w_end5 rfl rfl rfl rfl rfl ?_ | refine w_end6 rfl rfl rfl rfl rfl rfl ?_ | refine w_end8 rfl rfl rfl rfl rfl rfl rfl rfl ?_) | ((refine i_cons ?_); first | (have z := e7; refine k_new1 ?_; intro h8 e8 c8; have u8 : Cb h0 h8 h0.length h3.length h4.length h5.length hB.length h7.length sp sq S false [] := ⟨xB.trans (e7.trans e8), d3_B.ext (e7.trans e8), d4_B.ext (e7.trans e8), Cel1.ext d5_B (e7.trans e8), c6_B.ext (e7.trans e8), c7.ext e8, c8, ((oB.ext e7).ext e8).weaken x6.len, ⟨Nat.le_refl _, c3.lt, c4.lt, Cel1.lt c5, by have := c6.lt; omega, c7.lt⟩⟩) | (have z := xB; refine k_newst rfl ?_; intro h7 e7 c7) | (have z := e5; refine k_newC ?_; intro h6 e6 c6; have d3 := c3.ext (e4.trans (e5.trans e6)); have d4 := c4.ext (e5.trans e6); have d5 := Cel1.ext c5 e6; have x6 := e3.trans (e4.trans (e5.trans e6))) | (have z := e4; refine k_box1 rfl ?_; intro h5 e5 c5) | (have z := e3; refine k_boxC rfl ?_; intro h4 e4 c4) | (refine k_boxC rfl ?_; intro h3 e3 c3) | refine k_ldC0 rfl d3 ?_ | refine k_ldC0 rfl d4 ?_ | refine k_ldC1 rfl d3 ?_ | refine k_ldC1 rfl d4 ?_ | refine k_len rfl lp ?_ | refine k_len rfl lq ?_ | (refine k_mkD x6 rfl rfl (by simp only [bigN]; omega) ?_; intro S hB oB eB xB lB; have d3_B := d3.ext eB; have d4_B := d4.ext eB; have d5_B := Cel1.ext d5 eB; have c6_B := c6.ext eB) | (refine k_bld rfl rfl ?_) | (refine k_st1' rfl rfl u8.c8 ?_; intro h9 w9 c9; have u9 := u8.st8 (G := true) w9 c9) | refine k_want rfl ?_ | refine k_mv rfl ?_ | refine k_pickF rfl rfl ?_ | refine k_add rfl rfl (by omega) ?_ | refine k_ok rfl rfl ?_))
  have g0 : Mg p.ts q.ts 0 0 true [] := ⟨rfl, ⟨fun h => ⟨rfl, h⟩, fun h => h.2⟩, Nat.le_refl _⟩
  refine w_loop (I53 h0 h0.length h3.length h4.length h5.length hB.length h7.length sp sq p.ts q.ts) (qC p.ts q.ts) (R53 h0 h0.length h3.length h4.length h5.length hB.length h7.length sp sq p.ts q.ts) ⟨0, 0, S, true, [], Nat.zero_le _, Nat.zero_le _, u9, g0, rfl⟩ (round53 h0 h0.length h3.length h4.length h5.length hB.length h7.length sp sq p.ts q.ts hp hq (fun t ht => ⟨kp.cf t ht, kp.ex t ht⟩) (fun t ht => ⟨kq.cf t ht, kq.ex t ht⟩) pl ql) ?_
  rintro ex E' hC ⟨rfl, s, F, uC, hF, _, _, _, _, _, _, rfl⟩
  have o := uC.ord
  have c8 := uC.c8.at
  have c6 := uC.c6
  have lq6 : h0.length ≤ h5.length := by omega
  cases F
  · have e : addP p q = bigP := by unfold addP; rw [if_neg nb, if_neg (fun h => by have := hF.1 h; simp at this)]
    rw [e]
    repeat' (first | refine w_seq ?_ | refine w_seqN ?_ | refine w_seqR ?_ | refine w_blkX ?_ | refine w_ret ?_ | refine w_ops ?_ | ((refine i_cond ?_); refine w_condT rfl ?_) | ((refine i_nil ?_); first | refine w_end1 rfl ?_ | refine w_end3 rfl rfl rfl ?_) | ((refine i_cons ?_); first | refine k_ldb rfl c8 rfl ?_ | (refine k_bld rfl rfl ?_) | (refine k_stC rfl rfl c6 ?_; intro hD wD) | refine k_notF rfl ?_))
    exact ⟨.inr rfl, oK_cell rfl wD.cel.read ⟨wD.ext uC.e lq6, .nilS, rfl, IsD.nil _⟩⟩
  · have e : addP p q = ⟨false, mA p.ts q.ts⟩ := by unfold addP; rw [if_neg nb, if_pos (hF.2 rfl)]
    rw [e]
    repeat' (first | refine w_seq ?_ | refine w_seqN ?_ | refine w_blkX ?_ | refine w_skip ?_ | refine w_ret ?_ | refine w_ops ?_ | ((refine i_cond ?_); refine w_condF rfl ?_) | ((refine i_nil ?_); first | refine w_end1 rfl ?_ | refine w_end3 rfl rfl rfl ?_) | ((refine i_cons ?_); first | refine k_ldb rfl c8 rfl ?_ | refine k_ldC rfl uC.c7 ?_ | (refine k_stC rfl rfl c6 ?_; intro hD wD) | refine k_notT rfl ?_))
    exact ⟨.inr rfl, oK_cell rfl wD.cel.read ⟨wD.ext uC.e lq6, s, rfl, (uC.o.wrC wD).is⟩⟩
theorem call21 (h0 : Heap) (sp sq : SV) (p q : Pol) (hp : IsD h0 sp (tms p.ts)) (hq : IsD h0 sq (tms q.ts)) (kp : Pok p) (kq : Pok q) :
    ∃ r h', Cal FT HKt 21 [.agg [.bool p.big, sp], .agg [.bool q.big, sq]] h0 r h' ∧ Ext h0 h' ∧ IsPol h' r (addP p q) := by
  refine Cal.of (F := a21) rfl rfl rfl ?_
  have k53 := fun H (e : Ext h0 H) => call53 H sp sq p q (hp.ext e) (hq.ext e) kp kq
  generalize addP p q = D at *
  repeat' (first | refine w_seq ?_ | refine w_seqN ?_ | refine w_ret ?_ | refine w_ops ?_ | ((refine i_nil ?_); first | refine w_end1 rfl ?_ | refine w_end3 rfl rfl rfl ?_) | ((refine i_cons ?_); first | (have z := e2; refine k_newC ?_; intro h3 e3 c4; have d2 := c2.ext (e2.trans e3); have d3 := c3.ext e3; have x3 := e1.trans (e2.trans e3)) | (have z := e1; refine k_boxC rfl ?_; intro h2 e2 c3) | (refine k_boxC rfl ?_; intro h1 e1 c2) | refine k_ldC rfl d2 ?_ | refine k_ldC rfl d3 ?_ | (refine k_call rfl (k53 h3 x3) ?_; rintro r h4 ⟨e4, s, rfl, is⟩; have c4_4 := c4.ext e4) | (refine k_stC rfl rfl c4_4 ?_; intro h5 w5)))
  exact ⟨.inr rfl, oK_cell rfl w5.cel.read ⟨w5.ext (x3.trans e4) (Nat.le_trans e1.len e2.len), s, rfl, is.wrC w5⟩⟩
end Go.Proofs.YtlnjddjobbhcaaaDoor

