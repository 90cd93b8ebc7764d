/- Sums, differences, negatives: contracts. -/
import Derived.Test.YtofknpknogfijaaGreatDoorC3
namespace Go.Proofs.YtofknpknogfijaaGreatDoor
open Go.Ab
set_option linter.unusedVariables false
set_option linter.unusedSimpArgs false
set_option maxRecDepth 20000
set_option maxHeartbeats 8000000
attribute [local irreducible] wOps wA wSeq wBlk wRound wRoundI wOpsD wOpsS
set_option linter.unusedSectionVars false
variable [HB]

/-- A closure that combines two coefficients. -/
def Wop (gf : FuncId) (w : Int → Int → Int) : Prop := ∀ (h0 : Heap) (a b : Int), a.natAbs ≤ cM → b.natAbs ≤ cM → (∃ r h', Cal FT HKt gf ([.sc (.int .i64 a), .sc (.int .i64 b)] ++ ([] : List (Nat × Nat)).map fun p => AV.sc (.ptr p.1 p.2)) h0 r h' ∧ r = .sc (.int .i64 (w a b)) ∧ h' = h0) ∧ (w a b).natAbs ≤ 2251799813685248
def mG (w : Int → Int → Int) : List Tm → List Tm → List Tm := mrg w
structure CbG (gf : FuncId) (h0 h : Heap) (q3 q4 q5 q6 q7 q8 : Nat) (sp sq s : SV) (F : Bool) (r : List Tm) : Prop where
  e : Ext h0 h
  c3 : Cel h q3 (.bool false) sp
  c4 : Cel h q4 (.bool false) sq
  c5 : Cel1 h q5 (.fn gf [])
  c6 : Cel h q6 (.bool false) .nilS
  c7 : Cel h q7 (.bool false) s
  c8 : Cel1 h q8 (.bool F)
  o : OwnD h0 h s (tms r)
  ord : h0.length ≤ q3 ∧ q3 < q4 ∧ q4 < q5 ∧ q5 < q6 ∧ q6 < q7 ∧ q7 < q8
theorem CbG.st8 {gf : FuncId} {h0 h h1 : Heap} {q3 q4 q5 q6 q7 q8 : Nat} {sp sq s : SV} {F G : Bool} {r : List Tm} (u : CbG gf h0 h q3 q4 q5 q6 q7 q8 sp sq s F r) (hh : h1 = h.set q8 (.cells [.bool G] true 0)) (c : Cel1 h1 q8 (.bool G)) : CbG gf h0 h1 q3 q4 q5 q6 q7 q8 sp sq s G r := by
  have o := u.ord
  subst hh
  exact ⟨u.e.set (by omega) _, cel_st u.c3 (by omega) _, cel_st u.c4 (by omega) _, u.c5.set (by omega) _, cel_st u.c6 (by omega) _, cel_st u.c7 (by omega) _, c, u.o.set (u.o.cel u.c8) _, o⟩
theorem CbG.push {gf : FuncId} {h0 h h6 h7 : Heap} {q3 q4 q5 q6 q7 q8 : Nat} {sp sq s s' : SV} {F : Bool} {r r' : List Tm} (u : CbG gf h0 h q3 q4 q5 q6 q7 q8 sp sq s F r) (o6 : OwnD h0 h6 s' (tms r')) (e6 : Ext h0 h6) (f6 : Fram h h6 s s') (w7 : Wr h6 h7 q7 (.bool false) s') : CbG gf h0 h7 q3 q4 q5 q6 q7 q8 sp sq s' F r' := by
  have o := u.ord
  exact ⟨w7.ext e6 (by omega), w7.keep (u.c3.fram f6 (u.o.cel u.c3)) (by omega), w7.keep (u.c4.fram f6 (u.o.cel u.c4)) (by omega), cel1_wr (u.c5.fram f6 (u.o.cel u.c5)) w7 (by omega), w7.keep (u.c6.fram f6 (u.o.cel u.c6)) (by omega), w7.cel, cel1_wr (u.c8.fram f6 (u.o.cel u.c8)) w7 (by omega), o6.wrC w7, o⟩
theorem call83g {w : Int → Int → Int} {gf : FuncId} (kw : Wop gf w) (h0 h : Heap) (q3 q4 q5 q6 q7 q8 : Nat) (sp sq s : SV) (F : Bool) (r : List Tm) (e a b : Int) (u : CbG gf h0 h q3 q4 q5 q6 q7 q8 sp sq s F r) (ha : a.natAbs ≤ cM) (hb : b.natAbs ≤ cM) (hl : r.length ≤ 5000000) :
    ∃ v h', Cal FT HKt 83 [.sc (.int .i64 e), .sc (.int .i64 a), .sc (.int .i64 b), .sc (.ptr q5 0), .sc (.ptr q8 0), .sc (.ptr q7 0)] h v h' ∧ ∃ s', CbG gf h0 h' q3 q4 q5 q6 q7 q8 sp sq s' (fitB F (w a b)) (r ++ put e (w a b)) := by
  refine Cal.of (F := a83) rfl rfl rfl ?_
  have k54 := (kw h a b ha hb).1
  have hwb := (kw h a b ha hb).2
  simp only [cM] at ha hb
  have k35 := fun H => call50 H (w a b) 1125899906842624 (by omega)
  have hd : ∀ F', fitB F' (w a b) = (F' && decide ((w a b).natAbs ≤ (1125899906842624 : Int).toNat)) := fun _ => rfl
  rw [hd]
  generalize decide ((w a b).natAbs ≤ (1125899906842624 : Int).toNat) = D at *
  generalize hC : w a b = C at *
  have c5 := u.c5.at
  have c8 := u.c8.at
  cases F <;> by_cases hz : C = 0
  · have hp : r ++ put e C = r := by unfold put; rw [if_pos hz, List.append_nil]
    rw [hp]
    repeat' (first | refine w_seq ?_ | refine w_seqN ?_ | refine w_skip ?_ | refine w_ops ?_ | ((refine i_cond ?_); refine w_condF rfl ?_) | ((refine i_nil ?_); first | refine w_end3 rfl rfl rfl ?_ | refine w_end4 rfl rfl rfl rfl ?_) | ((refine i_cons ?_); first | refine k_ldb rfl c5 rfl ?_ | refine k_ldb rfl c8 rfl ?_ | (refine k_callvC rfl rfl k54 ?_; rintro v _ ⟨rfl, rfl⟩) | (refine k_st1' rfl rfl u.c8 ?_; intro h2 w2 c8'; have u2 := u.st8 (G := false) w2 c8') | refine k_skip rfl ?_ | refine k_mv rfl ?_ | refine k_pickF rfl rfl ?_ | refine k_neqF rfl rfl (by omega) ?_))
    exact ⟨.inl rfl, s, u2⟩
  · have hp : r ++ put e C = r ++ [(e, C)] := by unfold put; rw [if_neg hz]
    rw [hp]
    repeat' (first | refine w_seq ?_ | refine w_seqN ?_ | refine w_ops ?_ | ((refine i_cond ?_); refine w_condT rfl ?_) | ((refine i_nil ?_); first | refine w_end3 rfl rfl rfl ?_ | refine w_end4 rfl rfl rfl rfl ?_) | ((refine i_cons ?_); first | refine k_ldb rfl c5 rfl ?_ | refine k_ldb rfl c8 rfl ?_ | (refine k_callvC rfl rfl k54 ?_; rintro v _ ⟨rfl, rfl⟩) | (refine k_st1' rfl rfl u.c8 ?_; intro h2 w2 c8'; have u2 := u.st8 (G := false) w2 c8') | refine k_fldA rfl ?_ | refine k_ldC1 rfl u2.c7 ?_ | (refine k_bld rfl rfl ?_) | (refine k_pushD u2.e u2.o rfl rfl (by rw [tms_len]; simp only [bigN]; omega) ?_; intro s' h6 o6 e6 f6 l6; have cX6 := u2.c7.fram f6 (u2.o.cel u2.c7); have o6' : OwnD h0 h6 s' (tms (r ++ [(e, C)])) := (by simpa [tms, tmP] using o6)) | (refine k_stC1 rfl rfl cX6 ?_; intro h7 w7; have u7 := u2.push o6' e6 f6 w7) | refine k_skip rfl ?_ | refine k_mv rfl ?_ | refine k_pickF rfl rfl ?_ | refine k_neqT rfl rfl (by omega) ?_))
    refine w_nilK ?_
    exact ⟨.inl rfl, s', u7⟩
  · have hp : r ++ put e C = r := by unfold put; rw [if_pos hz, List.append_nil]
    rw [hp]
    repeat' (first | refine w_seq ?_ | refine w_seqN ?_ | refine w_skip ?_ | refine w_ops ?_ | ((refine i_cond ?_); refine w_condF rfl ?_) | ((refine i_nil ?_); first | refine w_end3 rfl rfl rfl ?_ | refine w_end4 rfl rfl rfl rfl ?_) | ((refine i_cons ?_); first | refine k_ldb rfl c5 rfl ?_ | refine k_ldb rfl c8 rfl ?_ | (refine k_callvC rfl rfl k54 ?_; rintro v _ ⟨rfl, rfl⟩) | (refine k_call rfl (k35 _) ?_; rintro v _ ⟨rfl, rfl⟩) | (refine k_st1' rfl rfl u.c8 ?_; intro h2 w2 c8'; have u2 := u.st8 (G := D) w2 c8') | refine k_want rfl ?_ | refine k_mv rfl ?_ | refine k_pickT rfl rfl ?_ | refine k_neqF rfl rfl (by omega) ?_))
    exact ⟨.inl rfl, s, u2⟩
  · have hp : r ++ put e C = r ++ [(e, C)] := by unfold put; rw [if_neg hz]
    rw [hp]
    repeat' (first | refine w_seq ?_ | refine w_seqN ?_ | refine w_ops ?_ | ((refine i_cond ?_); refine w_condT rfl ?_) | ((refine i_nil ?_); first | refine w_end3 rfl rfl rfl ?_ | refine w_end4 rfl rfl rfl rfl ?_) | ((refine i_cons ?_); first | refine k_ldb rfl c5 rfl ?_ | refine k_ldb rfl c8 rfl ?_ | (refine k_callvC rfl rfl k54 ?_; rintro v _ ⟨rfl, rfl⟩) | (refine k_call rfl (k35 _) ?_; rintro v _ ⟨rfl, rfl⟩) | (refine k_st1' rfl rfl u.c8 ?_; intro h2 w2 c8'; have u2 := u.st8 (G := D) w2 c8') | refine k_fldA rfl ?_ | refine k_ldC1 rfl u2.c7 ?_ | (refine k_bld rfl rfl ?_) | (refine k_pushD u2.e u2.o rfl rfl (by rw [tms_len]; simp only [bigN]; omega) ?_; intro s' h6 o6 e6 f6 l6; have cX6 := u2.c7.fram f6 (u2.o.cel u2.c7); have o6' : OwnD h0 h6 s' (tms (r ++ [(e, C)])) := (by simpa [tms, tmP] using o6)) | (refine k_stC1 rfl rfl cX6 ?_; intro h7 w7; have u7 := u2.push o6' e6 f6 w7) | refine k_want rfl ?_ | refine k_mv rfl ?_ | refine k_pickT rfl rfl ?_ | refine k_neqT rfl rfl (by omega) ?_))
    refine w_nilK ?_
    exact ⟨.inl rfl, s', u7⟩
structure MgG (w : Int → Int → Int) (p q : List Tm) (i j : Nat) (F : Bool) (r : List Tm) : Prop where
  eq : mG w p q = r ++ mG w (p.drop i) (q.drop j)
  ft : fitL (mG w p q) ↔ (F = true ∧ fitL (mG w (p.drop i) (q.drop j)))
  ln : r.length ≤ i + j
theorem MgG.step {w : Int → Int → Int} {p q : List Tm} {i j i' j' : Nat} {F : Bool} {r : List Tm} (g : MgG w p q i j F r) {e c : Int} (h : mG w (p.drop i) (q.drop j) = put e c ++ mG w (p.drop i') (q.drop j')) (hl : i + j < i' + j') : MgG w p q i' j' (fitB F c) (r ++ put e c) :=
  ⟨by rw [g.eq, h, List.append_assoc], by rw [g.ft, h, fit_put], by have := g.ln; have := put_len e c; rw [List.length_append]; omega⟩
theorem mG_l {w : Int → Int → Int} {t : Tm} {p : List Tm} : mG w (t :: p) [] = put t.1 (w t.2 0) ++ mG w p [] := by unfold mG; rw [mrg]
theorem mG_r {w : Int → Int → Int} {u : Tm} {q : List Tm} : mG w [] (u :: q) = put u.1 (w 0 u.2) ++ mG w [] q := by unfold mG; rw [mrg]
theorem mG_lt {w : Int → Int → Int} {t u : Tm} {p q : List Tm} (h : t.1 < u.1) : mG w (t :: p) (u :: q) = put t.1 (w t.2 0) ++ mG w p (u :: q) := by unfold mG; rw [mrg, if_pos h]
theorem mG_gt {w : Int → Int → Int} {t u : Tm} {p q : List Tm} (h : u.1 < t.1) : mG w (t :: p) (u :: q) = put u.1 (w 0 u.2) ++ mG w (t :: p) q := by unfold mG; rw [mrg, if_neg (by omega), if_pos h]
theorem mG_eq {w : Int → Int → Int} {t u : Tm} {p q : List Tm} (h : t.1 = u.1) : mG w (t :: p) (u :: q) = put t.1 (w t.2 u.2) ++ mG w p q := by unfold mG; rw [mrg, if_neg (by omega), if_neg (by omega)]
def J53 (w : Int → Int → Int) (gf : FuncId) (h0 : Heap) (q3 q4 q5 q6 q7 q8 : Nat) (sp sq : SV) (p q : List Tm) (E : Env) (h : Heap) : Prop := ∃ (i j : Nat) (s : SV) (F : Bool) (r : List Tm), i ≤ p.length ∧ j ≤ q.length ∧ CbG gf h0 h q3 q4 q5 q6 q7 q8 sp sq s F r ∧ MgG w p q i j F r ∧
  E.keep [3, 4, 6, 7, 8, 9, 10, 11] = [(3, some (.sc (.ptr q3 0))), (4, some (.sc (.ptr q4 0))), (6, some (.sc (.ptr q6 0))), (7, some (.sc (.ptr q7 0))), (8, some (.sc (.ptr q8 0))), (9, some (.sc (.fn 83 [(q5, 0), (q8, 0), (q7, 0)]))), (10, some (.sc (.int .i64 (i : Nat)))), (11, some (.sc (.int .i64 (j : Nat))))]
def S53 (w : Int → Int → Int) (gf : FuncId) (h0 : Heap) (q3 q4 q5 q6 q7 q8 : Nat) (sp sq : SV) (p q : List Tm) (ex : Ex) (E : Env) (h : Heap) : Prop := ex = .ex 0 ∧ ∃ (s : SV) (F : Bool), CbG gf h0 h q3 q4 q5 q6 q7 q8 sp sq s F (mG w p q) ∧ (fitL (mG w p q) ↔ F = true) ∧ ∃ a b c d e f,
  E = [(3, a), (4, b), (6, some (.sc (.ptr q6 0))), (7, some (.sc (.ptr q7 0))), (8, some (.sc (.ptr q8 0))), (9, c), (10, d), (11, e), (40, f)]
end Go.Proofs.YtofknpknogfijaaGreatDoor
