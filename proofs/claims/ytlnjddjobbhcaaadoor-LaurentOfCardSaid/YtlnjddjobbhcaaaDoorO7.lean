/- Term; a polynomial is the sum of its terms; same: contracts. -/
import Derived.Test.YtlnjddjobbhcaaaDoorO4
import Derived.Test.YtlnjddjobbhcaaaDoorO5
import Derived.Test.YtlnjddjobbhcaaaDoorO6
import Derived.Test.YtlnjddjobbhcaaaDoorV8
import Derived.Test.YtlnjddjobbhcaaaDoorA1
namespace Go.Proofs.YtlnjddjobbhcaaaDoor
open Go.Ab
set_option linter.unusedVariables false
set_option linter.unusedSimpArgs false
set_option maxRecDepth 20000
set_option maxHeartbeats 4000000
attribute [local irreducible] wOps wA wSeq wBlk wRound wRoundI wOpsD wOpsS

def termP (c e : Int) : Pol := if c = 0 then zeroP else if c.natAbs ≤ cM ∧ e.natAbs ≤ eM then ⟨false, [(e, c)]⟩ else bigP
theorem termP_ok (c e : Int) : Pok (termP c e) := by
  unfold termP
  split
  · exact zeroP_ok
  · rename_i hc
    split
    · rename_i h
      exact ⟨by simp, ⟨by simp, by simpa using hc⟩, by simpa using h.1, by simpa using h.2⟩
    · exact bigP_ok
theorem call31t (h0 : Heap) (c e : Int) : ∃ r h', Cal FT HKt 31 [.sc (.int .i64 c), .sc (.int .i64 e)] h0 r h' ∧ Ext h0 h' ∧ IsPol h' r (termP c e) := by
  by_cases hc : c = 0
  · have ht : termP c e = zeroP := by unfold termP; rw [if_pos hc]
    rw [ht]
    subst hc
    refine Cal.of (F := a31) rfl rfl rfl ?_
    repeat' (first | refine w_seq ?_ | refine w_seqN ?_ | refine w_seqX ?_ | refine w_seqR ?_ | refine w_blk ?_ | refine w_blkN ?_ | refine w_blkX ?_ | refine w_blkR ?_ | refine w_skip ?_ | refine w_ret ?_ | refine w_exit ?_ | refine w_ops ?_ | refine w_opsD ?_ | refine d_one ?_ | refine d_nil ?_ | (refine w_blkY ?_ ?_; rfl) | ((refine i_cond ?_); first | refine w_condT rfl ?_ | refine w_condF rfl ?_) | ((refine i_nil ?_); first | refine d_same ?_ | refine d_ord ?_ | refine d_ext ⟨_, rfl⟩ ?_ | refine d_ext (extA _ _ _) ?_ | refine d_ext (by assumption) ?_ | refine w_end0 ?_ | refine w_end1 rfl ?_ | refine w_end2 rfl rfl ?_ | refine w_end3 rfl rfl rfl ?_ | refine w_end4 rfl rfl rfl rfl ?_ | refine w_end5 rfl rfl rfl rfl rfl ?_ | refine w_end6 rfl rfl rfl rfl rfl rfl ?_ | refine w_end7 rfl rfl rfl rfl rfl rfl rfl ?_ | refine w_end8 rfl rfl rfl rfl rfl rfl rfl rfl ?_ | refine w_end9 rfl rfl rfl rfl rfl rfl rfl rfl rfl ?_ | refine w_end10 rfl rfl rfl rfl rfl rfl rfl rfl rfl rfl ?_ | refine w_end11 rfl rfl rfl rfl rfl rfl rfl rfl rfl rfl rfl ?_ | refine w_end12 rfl rfl rfl rfl rfl rfl rfl rfl rfl rfl rfl rfl ?_ | refine w_end13 rfl rfl rfl rfl rfl rfl rfl rfl rfl rfl rfl rfl rfl ?_ | refine w_end14 rfl rfl rfl rfl rfl rfl rfl rfl rfl rfl rfl rfl rfl rfl ?_ | refine w_end15 rfl rfl rfl rfl rfl rfl rfl rfl rfl rfl rfl rfl rfl rfl rfl ?_ | refine w_end16 rfl rfl rfl rfl rfl rfl rfl rfl rfl rfl rfl rfl rfl rfl rfl rfl ?_) | ((refine i_cons ?_); first | (refine k_newC ?_; intro h4 e4 c4) | (refine k_bld rfl rfl ?_) | (refine k_stC rfl rfl c4 ?_; intro h6 w6) | refine k_skip rfl ?_ | refine k_skipU rfl ?_ | refine k_want rfl ?_ | refine k_mv rfl ?_ | refine k_pickT rfl rfl ?_ | refine k_pickF rfl rfl ?_ | refine k_notT rfl ?_ | refine k_notF rfl ?_ | refine k_add rfl rfl (by omega) ?_ | refine k_sub rfl rfl (by omega) ?_ | refine k_mul rfl rfl (by omega) ?_ | refine k_neg rfl (by omega) ?_ | refine k_quo rfl rfl (by omega) ?_ | refine k_rem rfl rfl (by omega) ?_ | refine k_conv rfl (by omega) ?_ | refine k_max rfl rfl ?_ | refine k_min rfl rfl ?_ | refine k_lssT rfl rfl (by omega) ?_ | refine k_lssF rfl rfl (by omega) ?_ | refine k_lss rfl rfl (fun hc => ?_) (fun hc => ?_) | refine k_leqT rfl rfl (by omega) ?_ | refine k_leqF rfl rfl (by omega) ?_ | refine k_leq rfl rfl (fun hc => ?_) (fun hc => ?_) | refine k_gtrT rfl rfl (by omega) ?_ | refine k_gtrF rfl rfl (by omega) ?_ | refine k_gtr rfl rfl (fun hc => ?_) (fun hc => ?_) | refine k_geqT rfl rfl (by omega) ?_ | refine k_geqF rfl rfl (by omega) ?_ | refine k_geq rfl rfl (fun hc => ?_) (fun hc => ?_) | refine k_eqlT rfl rfl (by omega) ?_ | refine k_eqlF rfl rfl (by omega) ?_ | refine k_eql rfl rfl (fun hc => ?_) (fun hc => ?_) | refine k_neqT rfl rfl (by omega) ?_ | refine k_neqF rfl rfl (by omega) ?_ | refine k_neq rfl rfl (fun hc => ?_) (fun hc => ?_) | refine k_len rfl rfl ?_ | refine k_ok rfl rfl ?_))
    exact ⟨.inr rfl, oK_cell rfl w6.cel.read ⟨w6.ext e4 (Nat.le_refl _), .nilS, rfl, IsD.nil _⟩⟩
  by_cases hok : c.natAbs ≤ cM ∧ e.natAbs ≤ eM
  · have ht : termP c e = ⟨false, [(e, c)]⟩ := by unfold termP; rw [if_neg hc, if_pos hok]
    rw [ht]
    exact call31 h0 c e ⟨hc, hok.1⟩ hok.2
  · have ht : termP c e = bigP := by unfold termP; rw [if_neg hc, if_neg hok]
    rw [ht]
    refine Cal.of (F := a31) rfl rfl rfl ?_
    have k1 := fun H => call35 H c 1125899906842624 (by omega)
    have k2 := fun H => call35 H e 1048576 (by omega)
    by_cases h1 : c.natAbs ≤ cM
    · have h2 : ¬ e.natAbs ≤ eM := fun h => hok ⟨h1, h⟩
      rw [show decide (c.natAbs ≤ (1125899906842624 : Int).toNat) = true from decide_eq_true h1] at k1
      rw [show decide (e.natAbs ≤ (1048576 : Int).toNat) = false from decide_eq_false h2] at k2
      repeat' (first | refine w_seq ?_ | refine w_seqN ?_ | refine w_seqX ?_ | refine w_seqR ?_ | refine w_blk ?_ | refine w_blkN ?_ | refine w_blkX ?_ | refine w_blkR ?_ | refine w_skip ?_ | refine w_ret ?_ | refine w_exit ?_ | refine w_ops ?_ | refine w_opsD ?_ | refine d_one ?_ | refine d_nil ?_ | (refine w_blkY ?_ ?_; rfl) | ((refine i_cond ?_); first | refine w_condT rfl ?_ | refine w_condF rfl ?_) | ((refine i_nil ?_); first | refine d_same ?_ | refine d_ord ?_ | refine d_ext ⟨_, rfl⟩ ?_ | refine d_ext (extA _ _ _) ?_ | refine d_ext (by assumption) ?_ | refine w_end0 ?_ | refine w_end1 rfl ?_ | refine w_end2 rfl rfl ?_ | refine w_end3 rfl rfl rfl ?_ | refine w_end4 rfl rfl rfl rfl ?_ | refine w_end5 rfl rfl rfl rfl rfl ?_ | refine w_end6 rfl rfl rfl rfl rfl rfl ?_ | refine w_end7 rfl rfl rfl rfl rfl rfl rfl ?_ | refine w_end8 rfl rfl rfl rfl rfl rfl rfl rfl ?_ | refine w_end9 rfl rfl rfl rfl rfl rfl rfl rfl rfl ?_ | refine w_end10 rfl rfl rfl rfl rfl rfl rfl rfl rfl rfl ?_ | refine w_end11 rfl rfl rfl rfl rfl rfl rfl rfl rfl rfl rfl ?_ | refine w_end12 rfl rfl rfl rfl rfl rfl rfl rfl rfl rfl rfl rfl ?_ | refine w_end13 rfl rfl rfl rfl rfl rfl rfl rfl rfl rfl rfl rfl rfl ?_ | refine w_end14 rfl rfl rfl rfl rfl rfl rfl rfl rfl rfl rfl rfl rfl rfl ?_ | refine w_end15 rfl rfl rfl rfl rfl rfl rfl rfl rfl rfl rfl rfl rfl rfl rfl ?_ | refine w_end16 rfl rfl rfl rfl rfl rfl rfl rfl rfl rfl rfl rfl rfl rfl rfl rfl ?_) | ((refine i_cons ?_); first | (refine k_newC ?_; intro h4 e4 c4) | (refine k_call rfl (k1 _) ?_; rintro v _ ⟨rfl, rfl⟩) | (refine k_call rfl (k2 _) ?_; rintro v _ ⟨rfl, rfl⟩) | (refine k_bld rfl rfl ?_) | (refine k_stC rfl rfl c4 ?_; intro h6 w6) | refine k_skip rfl ?_ | refine k_skipU rfl ?_ | refine k_want rfl ?_ | refine k_mv rfl ?_ | refine k_pickT rfl rfl ?_ | refine k_pickF rfl rfl ?_ | refine k_notT rfl ?_ | refine k_notF rfl ?_ | refine k_add rfl rfl (by omega) ?_ | refine k_sub rfl rfl (by omega) ?_ | refine k_mul rfl rfl (by omega) ?_ | refine k_neg rfl (by omega) ?_ | refine k_quo rfl rfl (by omega) ?_ | refine k_rem rfl rfl (by omega) ?_ | refine k_conv rfl (by omega) ?_ | refine k_max rfl rfl ?_ | refine k_min rfl rfl ?_ | refine k_lssT rfl rfl (by omega) ?_ | refine k_lssF rfl rfl (by omega) ?_ | refine k_lss rfl rfl (fun hc => ?_) (fun hc => ?_) | refine k_leqT rfl rfl (by omega) ?_ | refine k_leqF rfl rfl (by omega) ?_ | refine k_leq rfl rfl (fun hc => ?_) (fun hc => ?_) | refine k_gtrT rfl rfl (by omega) ?_ | refine k_gtrF rfl rfl (by omega) ?_ | refine k_gtr rfl rfl (fun hc => ?_) (fun hc => ?_) | refine k_geqT rfl rfl (by omega) ?_ | refine k_geqF rfl rfl (by omega) ?_ | refine k_geq rfl rfl (fun hc => ?_) (fun hc => ?_) | refine k_eqlT rfl rfl (by omega) ?_ | refine k_eqlF rfl rfl (by omega) ?_ | refine k_eql rfl rfl (fun hc => ?_) (fun hc => ?_) | refine k_neqT rfl rfl (by omega) ?_ | refine k_neqF rfl rfl (by omega) ?_ | refine k_neq rfl rfl (fun hc => ?_) (fun hc => ?_) | refine k_len rfl rfl ?_ | refine k_ok rfl rfl ?_))
      exact ⟨.inr rfl, oK_cell rfl w6.cel.read ⟨w6.ext e4 (Nat.le_refl _), .nilS, rfl, IsD.nil _⟩⟩
    · rw [show decide (c.natAbs ≤ (1125899906842624 : Int).toNat) = false from decide_eq_false h1] at k1
      repeat' (first | refine w_seq ?_ | refine w_seqN ?_ | refine w_seqX ?_ | refine w_seqR ?_ | refine w_blk ?_ | refine w_blkN ?_ | refine w_blkX ?_ | refine w_blkR ?_ | refine w_skip ?_ | refine w_ret ?_ | refine w_exit ?_ | refine w_ops ?_ | refine w_opsD ?_ | refine d_one ?_ | refine d_nil ?_ | (refine w_blkY ?_ ?_; rfl) | ((refine i_cond ?_); first | refine w_condT rfl ?_ | refine w_condF rfl ?_) | ((refine i_nil ?_); first | refine d_same ?_ | refine d_ord ?_ | refine d_ext ⟨_, rfl⟩ ?_ | refine d_ext (extA _ _ _) ?_ | refine d_ext (by assumption) ?_ | refine w_end0 ?_ | refine w_end1 rfl ?_ | refine w_end2 rfl rfl ?_ | refine w_end3 rfl rfl rfl ?_ | refine w_end4 rfl rfl rfl rfl ?_ | refine w_end5 rfl rfl rfl rfl rfl ?_ | refine w_end6 rfl rfl rfl rfl rfl rfl ?_ | refine w_end7 rfl rfl rfl rfl rfl rfl rfl ?_ | refine w_end8 rfl rfl rfl rfl rfl rfl rfl rfl ?_ | refine w_end9 rfl rfl rfl rfl rfl rfl rfl rfl rfl ?_ | refine w_end10 rfl rfl rfl rfl rfl rfl rfl rfl rfl rfl ?_ | refine w_end11 rfl rfl rfl rfl rfl rfl rfl rfl rfl rfl rfl ?_ | refine w_end12 rfl rfl rfl rfl rfl rfl rfl rfl rfl rfl rfl rfl ?_ | refine w_end13 rfl rfl rfl rfl rfl rfl rfl rfl rfl rfl rfl rfl rfl ?_ | refine w_end14 rfl rfl rfl rfl rfl rfl rfl rfl rfl rfl rfl rfl rfl rfl ?_ | refine w_end15 rfl rfl rfl rfl rfl rfl rfl rfl rfl rfl rfl rfl rfl rfl rfl ?_ | refine w_end16 rfl rfl rfl rfl rfl rfl rfl rfl rfl rfl rfl rfl rfl rfl rfl rfl ?_) | ((refine i_cons ?_); first | (refine k_newC ?_; intro h4 e4 c4) | (refine k_call rfl (k1 _) ?_; rintro v _ ⟨rfl, rfl⟩) | (refine k_bld rfl rfl ?_) | (refine k_stC rfl rfl c4 ?_; intro h6 w6) | refine k_skip rfl ?_ | refine k_skipU rfl ?_ | refine k_want rfl ?_ | refine k_mv rfl ?_ | refine k_pickT rfl rfl ?_ | refine k_pickF rfl rfl ?_ | refine k_notT rfl ?_ | refine k_notF rfl ?_ | refine k_add rfl rfl (by omega) ?_ | refine k_sub rfl rfl (by omega) ?_ | refine k_mul rfl rfl (by omega) ?_ | refine k_neg rfl (by omega) ?_ | refine k_quo rfl rfl (by omega) ?_ | refine k_rem rfl rfl (by omega) ?_ | refine k_conv rfl (by omega) ?_ | refine k_max rfl rfl ?_ | refine k_min rfl rfl ?_ | refine k_lssT rfl rfl (by omega) ?_ | refine k_lssF rfl rfl (by omega) ?_ | refine k_lss rfl rfl (fun hc => ?_) (fun hc => ?_) | refine k_leqT rfl rfl (by omega) ?_ | refine k_leqF rfl rfl (by omega) ?_ | refine k_leq rfl rfl (fun hc => ?_) (fun hc => ?_) | refine k_gtrT rfl rfl (by omega) ?_ | refine k_gtrF rfl rfl (by omega) ?_ | refine k_gtr rfl rfl (fun hc => ?_) (fun hc => ?_) | refine k_geqT rfl rfl (by omega) ?_ | refine k_geqF rfl rfl (by omega) ?_ | refine k_geq rfl rfl (fun hc => ?_) (fun hc => ?_) | refine k_eqlT rfl rfl (by omega) ?_ | refine k_eqlF rfl rfl (by omega) ?_ | refine k_eql rfl rfl (fun hc => ?_) (fun hc => ?_) | refine k_neqT rfl rfl (by omega) ?_ | refine k_neqF rfl rfl (by omega) ?_ | refine k_neq rfl rfl (fun hc => ?_) (fun hc => ?_) | refine k_len rfl rfl ?_ | refine k_ok rfl rfl ?_))
      exact ⟨.inr rfl, oK_cell rfl w6.cel.read ⟨w6.ext e4 (Nat.le_refl _), .nilS, rfl, IsD.nil _⟩⟩
/-- The polynomial of the first i coefficients. -/
def ofQ (low : Int) (xs : List Int) (i : Nat) : Pol := match ofN low xs i with
  | some r => ⟨false, r⟩
  | none => bigP
theorem ofQ_ok (low : Int) (xs : List Int) (i : Nat) : Pok (ofQ low xs i) := by
  unfold ofQ
  cases h : ofN low xs i with
  | none => exact bigP_ok
  | some r =>
    obtain ⟨a, b, _⟩ := ofN_ok h
    exact ⟨by simp, a, fun t ht => (b t ht).2.2.1, fun t ht => (b t ht).2.2.2⟩
theorem mA_can {p q : List Tm} (hp : Can p) (hq : Can q) : Can (mA p q) := mrg_can hp hq
theorem ofQ_step (low : Int) (hl : low ≤ 1048576) (xs : List Int) (i : Nat) : addP (ofQ low xs i) (termP (xs.getD i 0) (low + i)) = ofQ low xs (i + 1) := by
  have ok1 := ofQ_ok low xs (i + 1)
  unfold ofQ at ok1 ⊢
  rw [ofN] at ok1 ⊢
  cases h : ofN low xs i with
  | none => unfold addP; rw [if_pos (.inl rfl)]; rfl
  | some r =>
    obtain ⟨hc, hb, hcf⟩ := ofN_ok h
    rw [h, Option.bind_some] at ok1
    rw [Option.bind_some]
    generalize hx : xs.getD i 0 = x at *
    have key : ∀ q r', termP x (low + i) = ⟨false, q⟩ → Can q → Can r' → (∀ t ∈ r', t.2.natAbs ≤ cM) → (∀ e, cf r' e = cf r e + cf q e) → addP ⟨false, r⟩ (termP x (low + i)) = ⟨false, r'⟩ := by
      intro q r' ht hq hr' hm he
      have e1 : mA r q = r' := by
        refine Can.ext (mA_can hc hq) hr' fun e => ?_
        rw [he]; exact S_mA _ _ _
      rw [ht]; unfold addP
      rw [if_neg (by simp), if_pos (show fitL (mA r q) by rw [e1]; exact hm), e1]
    by_cases hz : x = 0
    · rw [if_pos hz] at ok1 ⊢
      exact key [] r (by unfold termP; rw [if_pos hz]) .nil hc (fun t ht => (hb t ht).2.2.1) (fun e => by show _ = cf r e + 0; omega)
    · rw [if_neg hz] at ok1 ⊢
      by_cases hbd : x.natAbs ≤ cM ∧ low ≤ eM ∧ (low + i).natAbs ≤ eM
      · rw [if_pos hbd] at ok1 ⊢
        exact key [(low + i, x)] _ (by unfold termP; rw [if_neg hz, if_pos ⟨hbd.1, hbd.2.2⟩]) ⟨by simp, by simpa using hz⟩ ok1.can ok1.cf (fun e => cf_app _ _ _)
      · rw [if_neg hbd]
        have ht : termP x (low + i) = bigP := by unfold termP; rw [if_neg hz, if_neg fun h => hbd ⟨h.1, hl, h.2⟩]
        rw [ht]; unfold addP; rw [if_pos (.inr rfl)]
theorem ofP_rngO {low : Int} {xs : List Int} : ∀ t ∈ (ofP low xs).ts, low ≤ t.1 ∧ t.1 < low + xs.length := by
  unfold ofP
  cases h : ofN low xs xs.length with
  | none => simp [bigP]
  | some r => exact fun t ht => let ⟨a, b, _⟩ := (ofN_ok h).2.1 t ht; ⟨a, b⟩
/-- The polynomial of the reference is the same. -/
theorem call20 (h0 : Heap) (s t : SV) (p : Pol) (kp : Pok p) (hl : p.ts.length ≤ 1000) (hx : ∀ t ∈ p.ts, t.1.natAbs ≤ 300) (hs : IsD h0 s (tms p.ts)) (ht : IsD h0 t (tms p.ts)) :
    ∃ r h', Cal FT HKt 20 [.agg [.bool p.big, s], .agg [t, .bool p.big]] h0 r h' ∧ Ext h0 h' ∧ r = .sc (.bool true) := by
  refine Cal.of (F := a20) rfl rfl rfl ?_
  have k51 := fun H (e : Ext h0 H) => call51 H p.big s p.ts (hs.ext e) kp.can (by omega) hx
  have k50 := fun H (e : Ext h0 H) s1 hs1 => call50 H s1 t p p hs1 (ht.ext e) kp.big kp.big (by omega) (by omega)
  have k34 := fun H (e : Ext h0 H) => call34 H s [116] (by decide) p (hs.ext e) hl kp.cf kp.ex
  have k52 := fun H (e : Ext h0 H) => call52 H p.big t [116] (by decide) p rfl (ht.ext e) hl kp.cf kp.ex
  simp only [decide_true] at k50
  repeat' (first | refine w_seq ?_ | refine w_seqN ?_ | refine w_seqX ?_ | refine w_seqR ?_ | refine w_blk ?_ | refine w_blkN ?_ | refine w_blkX ?_ | refine w_blkR ?_ | refine w_skip ?_ | refine w_ret ?_ | refine w_exit ?_ | refine w_ops ?_ | refine w_opsD ?_ | refine d_one ?_ | refine d_nil ?_ | (refine w_blkY ?_ ?_; rfl) | ((refine i_cond ?_); first | refine w_condT rfl ?_ | refine w_condF rfl ?_) | ((refine i_nil ?_); first | refine d_same ?_ | refine d_ord ?_ | refine d_ext ⟨_, rfl⟩ ?_ | refine d_ext (extA _ _ _) ?_ | refine d_ext (by assumption) ?_ | refine w_end0 ?_ | refine w_end1 rfl ?_ | refine w_end2 rfl rfl ?_ | refine w_end3 rfl rfl rfl ?_ | refine w_end4 rfl rfl rfl rfl ?_ | refine w_end5 rfl rfl rfl rfl rfl ?_ | refine w_end6 rfl rfl rfl rfl rfl rfl ?_ | refine w_end7 rfl rfl rfl rfl rfl rfl rfl ?_ | refine w_end8 rfl rfl rfl rfl rfl rfl rfl rfl ?_ | refine w_end9 rfl rfl rfl rfl rfl rfl rfl rfl rfl ?_ | refine w_end10 rfl rfl rfl rfl rfl rfl rfl rfl rfl rfl ?_ | refine w_end11 rfl rfl rfl rfl rfl rfl rfl rfl rfl rfl rfl ?_ | refine w_end12 rfl rfl rfl rfl rfl rfl rfl rfl rfl rfl rfl rfl ?_ | refine w_end13 rfl rfl rfl rfl rfl rfl rfl rfl rfl rfl rfl rfl rfl ?_ | refine w_end14 rfl rfl rfl rfl rfl rfl rfl rfl rfl rfl rfl rfl rfl rfl ?_ | refine w_end15 rfl rfl rfl rfl rfl rfl rfl rfl rfl rfl rfl rfl rfl rfl rfl ?_ | refine w_end16 rfl rfl rfl rfl rfl rfl rfl rfl rfl rfl rfl rfl rfl rfl rfl rfl ?_) | ((refine i_cons ?_); first | (have z := e1; refine k_boxC rfl ?_; intro h2 e2 c2; have d1 := c1.ext e2; have x2 := e1.trans e2) | (refine k_boxC rfl ?_; intro h1 e1 c1) | refine k_ldC rfl d1 ?_ | (refine k_call rfl (k51 h2 x2) ?_; rintro r h3 ⟨e3, s3, rfl, d3⟩; have c3 := c2.ext e3; have x3 := x2.trans e3) | refine k_ldC rfl c3 ?_ | (refine k_call rfl (k50 h3 x3 _ d3) ?_; rintro r h4 ⟨e4, rfl⟩; have x4 := x3.trans e4; have f1 := (d1.ext e3).ext e4; have f2 := c3.ext e4) | refine k_ldC rfl f1 ?_ | (refine k_call rfl (k34 h4 x4) ?_; rintro r h5 ⟨e5, rfl⟩; have x5 := x4.trans e5; have f5 := f2.ext e5) | refine k_ldC rfl f5 ?_ | (refine k_call rfl (k52 h5 x5) ?_; rintro r h6 ⟨e6, rfl⟩; have x6 := x5.trans e6) | refine k_seql rfl rfl (decide_eq_true rfl) ?_ | refine k_skip rfl ?_ | refine k_skipU rfl ?_ | refine k_want rfl ?_ | refine k_mv rfl ?_ | refine k_pickT rfl rfl ?_ | refine k_pickF rfl rfl ?_ | refine k_notT rfl ?_ | refine k_notF rfl ?_ | refine k_add rfl rfl (by omega) ?_ | refine k_sub rfl rfl (by omega) ?_ | refine k_mul rfl rfl (by omega) ?_ | refine k_neg rfl (by omega) ?_ | refine k_quo rfl rfl (by omega) ?_ | refine k_rem rfl rfl (by omega) ?_ | refine k_conv rfl (by omega) ?_ | refine k_max rfl rfl ?_ | refine k_min rfl rfl ?_ | refine k_lssT rfl rfl (by omega) ?_ | refine k_lssF rfl rfl (by omega) ?_ | refine k_lss rfl rfl (fun hc => ?_) (fun hc => ?_) | refine k_leqT rfl rfl (by omega) ?_ | refine k_leqF rfl rfl (by omega) ?_ | refine k_leq rfl rfl (fun hc => ?_) (fun hc => ?_) | refine k_gtrT rfl rfl (by omega) ?_ | refine k_gtrF rfl rfl (by omega) ?_ | refine k_gtr rfl rfl (fun hc => ?_) (fun hc => ?_) | refine k_geqT rfl rfl (by omega) ?_ | refine k_geqF rfl rfl (by omega) ?_ | refine k_geq rfl rfl (fun hc => ?_) (fun hc => ?_) | refine k_eqlT rfl rfl (by omega) ?_ | refine k_eqlF rfl rfl (by omega) ?_ | refine k_eql rfl rfl (fun hc => ?_) (fun hc => ?_) | refine k_neqT rfl rfl (by omega) ?_ | refine k_neqF rfl rfl (by omega) ?_ | refine k_neq rfl rfl (fun hc => ?_) (fun hc => ?_) | refine k_len rfl rfl ?_ | refine k_ok rfl rfl ?_))
  exact ⟨.inr rfl, x6, rfl⟩
end Go.Proofs.YtlnjddjobbhcaaaDoor
