/- The Builder, with a block beside it that stays. -/
import Derived.Test.YtofknpknogfijaaGreatDoorW1
import Derived.Test.YtofknpknogfijaaGreatDoorO1
import Derived.Lib.ItoaLen
import Derived.Lib.ItoaMem
namespace Go.Proofs.YtofknpknogfijaaGreatDoor
open Go.Ab
set_option linter.unusedVariables false
set_option maxRecDepth 20000
attribute [local irreducible] wOps wA wSeq wBlk wRound wOpsD
set_option linter.unusedSectionVars false
variable [HB]

/-- Block q lies beside the Builder in B, whose bytes are in s. -/
structure Kq (h : Heap) (B : Nat) (s : SV) (q : Nat) (c : Blk) : Prop where
  at' : h[q]? = some c
  ne : q ≠ B
  no : NotAt s q
def BLq (h0 h : Heap) (B : Nat) (bs : List UInt8) (q : Nat) (c : Blk) : Prop :=
  ∃ p s, h[B]? = some (.cells [p, s] true ⟨0, some 77⟩) ∧ (p = .nilP ∨ p = .ptr B 0) ∧ h0.length ≤ B ∧ OwnZ bz h0 h s (u8s bs) ∧ NotAt s B ∧ Ext h0 h ∧ Kq h B s q c
theorem BLq.bl {h0 h : Heap} {B : Nat} {bs : List UInt8} {q : Nat} {c : Blk} (hb : BLq h0 h B bs q c) : BL h0 h B bs := by
  obtain ⟨p, s, h1, h2, h3, h4, h5, h6, -⟩ := hb
  exact ⟨p, s, h1, h2, h3, h4, h5, h6⟩
theorem BLq.at {h0 h : Heap} {B : Nat} {bs : List UInt8} {q : Nat} {c : Blk} (hb : BLq h0 h B bs q c) : h[q]? = some c := by
  obtain ⟨p, s, h1, h2, h3, h4, h5, h6, h7⟩ := hb
  exact h7.at'
theorem BLq.of {h0 h h1 : Heap} {B : Nat} {bs : List UInt8} {c : Blk} (hb : BL h0 h B bs) (he : Ext h h1) (hc : h1[h.length]? = some c) : BLq h0 h1 B bs h.length c := by
  obtain ⟨p, s, g1, g2, g3, g4, g5, g6⟩ := hb
  refine ⟨p, s, he.get _ _ g1, g2, g3, g4.ext he, g5, g6.trans he, hc, ?_, ?_⟩
  · have := (List.getElem?_eq_some_iff.1 g1).1; omega
  · intro o n c' e
    rcases g4 with ⟨rfl, -⟩ | ⟨id, cap, cs, rfl, -, -, k, -⟩
    · cases e
    · have := (List.getElem?_eq_some_iff.1 k).1
      injection e with e1
      omega
theorem check87q {h0 h : Heap} {B : Nat} {bs : List UInt8} {q : Nat} {c : Blk} (hb : BLq h0 h B bs q c) : ∃ v h', Cal FT HKt 78 [.sc (.ptr B 0)] h v h' ∧ v = .tup [] ∧ ∃ s, BLS h0 h' B s bs ∧ Kq h' B s q c ∧ readN h' B (0 + 1) 1 = some [s] := by
  obtain ⟨p, s, h1, hp, h2, h3, h4, h5, hk⟩ := hb
  have hB : B < h.length := (List.getElem?_eq_some_iff.1 h1).1
  rcases hp with rfl | rfl
  · refine ⟨_, h.set B (.cells [.ptr B 0, s] true ⟨0, some 77⟩), Cal.hook (g := ccHook 77) rfl (by simp only [ccHook, h1, if_true]), rfl, s, ⟨⟨s, by rw [List.getElem?_set_self hB]⟩, h2, h3.away h4 _, h4, h5.set h2 _⟩, ⟨by rw [List.getElem?_set_ne (fun e => hk.ne e.symm)]; exact hk.at', hk.ne, hk.no⟩, ?_⟩
    simp only [readN, List.getElem?_set_self hB, cut]; rfl
  · refine ⟨_, h, Cal.hook (g := ccHook 77) rfl (by simp only [ccHook, h1]; rw [if_pos (by simp)]), rfl, s, ⟨⟨s, h1⟩, h2, h3, h4, h5⟩, hk, ?_⟩
    simp only [readN, h1, cut]; rfl
theorem Kq.grow {h h' : Heap} {B : Nat} {s : SV} {q : Nat} {c : Blk} (k : Kq h B s q c) (he : Ext h h') : Kq h' B s q c := ⟨he.get _ _ k.at', k.ne, k.no⟩
theorem storeq {h0 h : Heap} {B : Nat} {s : SV} {bs : List UInt8} {q : Nat} {c : Blk} (hb : BLS h0 h B s bs) (k : Kq h B s q c) : ∃ h', writeN h B (0 + 1) [s] = some h' ∧ BLq h0 h' B bs q c := by
  obtain ⟨x, hq⟩ := hb.blk
  have hB : B < h.length := (List.getElem?_eq_some_iff.1 hq).1
  refine ⟨h.set B (.cells [.ptr B 0, s] true ⟨0, some 77⟩), ?_, .ptr B 0, s, by rw [List.getElem?_set_self hB], .inr rfl, hb.low, hb.own.away hb.not _, hb.not, hb.ext.set hb.low _, by rw [List.getElem?_set_ne (fun e => k.ne e.symm)]; exact k.at', k.ne, k.no⟩
  simp only [writeN, hq]
  rw [if_pos (by simp)]
  simp [splice]
section
variable {FT : FuncId → Option AFun} {HK : FuncId → Option Hook} {E : Env} {h : Heap} {K : Env → Heap → Prop} {d : Option Nat} {r : List AOp} {x y : AO}
theorem k_bappq {h0 : Heap} {B : Nat} {s t : SV} {bs cs : List UInt8} {bytes : Nat} {zz : List SV} {q : Nat} {c : Blk} (hb : BLS h0 h B s bs) (k : Kq h B s q c) (hx : evS E x = some s) (hy : evS E y = some t) (hs : srcCells h 1 t = some (cs.length, u8s cs)) (hl : (bs.length + cs.length) * (bytes + 1) ≤ bigN)
    (hw : ∀ s' h', BLS h0 h' B s' (bs ++ cs) → Kq h' B s' q c → wOps FT HK r (bindE d (some (.sc s')) E) h' K) : wOps FT HK (⟨d, .app bz bytes zz x y, none⟩ :: r) E h K := by
  obtain ⟨s', h', h1, h2, h3, h4, h5⟩ := ownz_app (z := bz) (ws := u8s cs) (bytes := bytes) rfl hb.ext hb.own (by rw [u8s_len, u8s_len]; exact hl)
  obtain ⟨p, hq⟩ := hb.blk
  obtain ⟨k1, k2⟩ := h5 B _ hq hb.not
  obtain ⟨m1, m2⟩ := h5 q _ k.at' k.no
  refine op_ok (v := some (.sc s')) (h' := h') rfl rfl ?_ (hw s' h' ⟨⟨p, k1⟩, hb.low, by rw [u8s_app]; exact h2, k2, h3⟩ ⟨m1, k.ne, m2⟩)
  rw [u8s_len] at h1
  simp only [step1, hx, hy, Option.bind_some, hs, h1]
  rfl
end
theorem call41q (h0 h : Heap) (B : Nat) (bs : List UInt8) (c : UInt8) (q : Nat) (k : Blk) (hb : BLq h0 h B bs q k) (hl : bs.length ≤ 1000000) :
    ∃ v h', Cal FT HKt 41 [.sc (.ptr B 0), .sc (.int .u8 (c.toNat : Int))] h v h' ∧ v = .sc .nilI ∧ BLq h0 h' B (bs ++ [c]) q k := by
  refine Cal.of (F := a41) rfl rfl rfl ?_
  repeat' (first | refine w_seq ?_ | refine w_seqN ?_ | refine w_ret ?_ | refine w_ops ?_ | ((refine i_nil ?_); first | refine w_end0 ?_ | refine w_end1 rfl ?_ | refine w_end2 rfl rfl ?_) | ((refine i_cons ?_); first | (refine k_call rfl (check87q hb) ?_; rintro v h1 ⟨rfl, s, s1, q1, r1⟩) | refine k_nilc rfl ?_ | refine k_fldA rfl ?_ | refine k_ld rfl r1 ?_ | (refine k_bslZ rfl rfl ?_; intro ee; have s2 := s1.grow ee; have q2 := q1.grow ee) | (refine k_bappq (cs := [c]) s2 q2 rfl rfl src_z (by simp [bigN]; omega) ?_; intro s' h2 s3 q3; obtain ⟨h3, w3, b3⟩ := storeq s3 q3) | refine k_st2 rfl rfl w3 ?_ | refine k_mv rfl ?_))
  exact ⟨.inr rfl, rfl, b3⟩
theorem call42q (h0 h : Heap) (B : Nat) (bs cs : List UInt8) (q : Nat) (k : Blk) (hb : BLq h0 h B bs q k) (hl : bs.length ≤ 1000000) (hc : cs.length ≤ 1000000) :
    ∃ v h', Cal FT HKt 42 [.sc (.ptr B 0), .sc (tb cs)] h v h' ∧ BLq h0 h' B (bs ++ cs) q k := by
  refine Cal.of (F := a42) rfl rfl rfl ?_
  repeat' (first | refine w_seq ?_ | refine w_seqN ?_ | refine w_ret ?_ | refine w_ops ?_ | ((refine i_nil ?_); first | refine w_end1 rfl ?_ | refine w_end2 rfl rfl ?_) | ((refine i_cons ?_); first | (refine k_call rfl (check87q hb) ?_; rintro v h1 ⟨rfl, s, s1, q1, r1⟩) | refine k_nilc rfl ?_ | refine k_fldA rfl ?_ | refine k_ld rfl r1 ?_ | (refine k_bappq (cs := cs) s1 q1 rfl rfl (src_tb _ cs) (by simp only [bigN]; omega) ?_; intro s' h2 s3 q3; obtain ⟨h3, w3, b3⟩ := storeq s3 q3) | refine k_st2 rfl rfl w3 ?_ | refine k_slen rfl ?_ | refine k_mv rfl ?_))
  exact ⟨.inr rfl, b3⟩
end Go.Proofs.YtofknpknogfijaaGreatDoor


namespace Go.Proofs.YtofknpknogfijaaGreatDoor
open Go.Ab
set_option linter.unusedVariables false
set_option linter.unusedSimpArgs false
set_option maxRecDepth 20000
set_option maxHeartbeats 4000000
attribute [local irreducible] wOps wA wSeq wBlk wRound wRoundI wOpsD wOpsS
set_option linter.unusedSectionVars false
variable [HB]

end Go.Proofs.YtofknpknogfijaaGreatDoor


namespace Go.Proofs.YtofknpknogfijaaGreatDoor
open Go.Ab
set_option linter.unusedVariables false
set_option linter.unusedSimpArgs false
set_option maxRecDepth 20000
set_option maxHeartbeats 4000000
attribute [local irreducible] wOps wA wSeq wBlk wRound wRoundI wOpsD wOpsS
set_option linter.unusedSectionVars false
variable [HB]

/-! ### Texts -/
/-- A term without its sign. -/
def bodyT (nm : List UInt8) (c e : Int) : List UInt8 := (if c ≠ 1 ∨ e = 0 then Lib.itoa c else []) ++ ((if e ≠ 0 then nm else []) ++ (if e ≠ 0 ∧ e ≠ 1 then [94] ++ Lib.itoa e else []))
def tTx (nm : List UInt8) (i : Nat) (t : Tm) : List UInt8 := if t.2 < 0 then [45] ++ bodyT nm (-t.2) t.1 else if 0 < i then [43] ++ bodyT nm t.2 t.1 else bodyT nm t.2 t.1
/-- The text of the first i terms. -/
def txtN (nm : List UInt8) (ts : List Tm) : Nat → List UInt8
  | 0 => []
  | i + 1 => txtN nm ts i ++ tTx nm i (ts.getD i (0, 0))
def txtP (nm : List UInt8) (p : Pol) : List UInt8 := if p.big then [98, 105, 103] else if p.ts = [] then [48] else txtN nm p.ts p.ts.length
theorem txtN_succ {nm : List UInt8} {ts : List Tm} {i : Nat} {t : Tm} (h : ts[i]? = some t) : txtN nm ts (i + 1) = txtN nm ts i ++ tTx nm i t := by
  rw [txtN, List.getD_eq_getElem?_getD, h]; rfl
theorem itoa_l {x : Int} (h : x.natAbs ≤ 1125899906842624) : (Lib.itoa x).length ≤ 22 := by
  have := Lib.itoa_length_le x (by omega) (by omega)
  omega
theorem bodyT_len {nm : List UInt8} (hn : nm.length ≤ 40) {c e : Int} (hc : c.natAbs ≤ 1125899906842624) (he : e.natAbs ≤ 1048576) : (bodyT nm c e).length ≤ 85 := by
  have h1 := itoa_l hc
  have h2 := itoa_l (x := e) (by omega)
  unfold bodyT
  rw [List.length_append, List.length_append]
  have a : (if c ≠ 1 ∨ e = 0 then Lib.itoa c else []).length ≤ 22 := by split; exact h1; exact Nat.zero_le _
  have b : (if e ≠ 0 then nm else []).length ≤ 40 := by split; exact hn; exact Nat.zero_le _
  have d : (if e ≠ 0 ∧ e ≠ 1 then [94] ++ Lib.itoa e else []).length ≤ 23 := by
    split
    · rw [List.length_append, List.length_singleton]; omega
    · exact Nat.zero_le _
  omega
theorem tTx_len {nm : List UInt8} (hn : nm.length ≤ 40) {t : Tm} (hc : t.2.natAbs ≤ 1125899906842624) (he : t.1.natAbs ≤ 1048576) (i : Nat) : (tTx nm i t).length ≤ 86 := by
  have h1 := bodyT_len hn hc he
  have h2 := bodyT_len hn (c := -t.2) (by omega) he
  unfold tTx
  split
  · rw [List.length_append, List.length_singleton]; omega
  · split
    · rw [List.length_append, List.length_singleton]; omega
    · omega
theorem txtN_len {nm : List UInt8} (hn : nm.length ≤ 40) {ts : List Tm} (hc : ∀ t ∈ ts, t.2.natAbs ≤ cM) (he : ∀ t ∈ ts, t.1.natAbs ≤ eM) : ∀ i, i ≤ ts.length → (txtN nm ts i).length ≤ 86 * i
  | 0, _ => Nat.le_refl _
  | i + 1, h => by
    obtain ⟨t, ht⟩ : ∃ t, ts[i]? = some t := ⟨_, List.getElem?_eq_getElem (by omega)⟩
    have h1 := txtN_len hn hc he i (by omega)
    have h2 := tTx_len hn (hc t (List.mem_of_getElem? ht)) (he t (List.mem_of_getElem? ht)) i
    rw [txtN_succ ht, List.length_append]; omega
/-! ### Decimal -/
theorem call45 (h0 : Heap) : ∀ (k n : Nat), n ≤ k → n ≤ 1125899906842624 → ∃ v h', Cal FT HKt 45 [.sc (.int .i64 (n : Int))] h0 v h' ∧ h' = h0 ∧ v = .sc (tb (Lib.decDigits n)) := by
  intro k
  induction k with
  | zero =>
    intro n hn _
    have hn0 : n = 0 := by omega
    subst hn0
    refine Cal.of (F := a45) rfl rfl rfl ?_
    rw [Lib.decDigits_one (by decide)]
    repeat' (first | refine w_seq ?_ | refine w_seqN ?_ | refine w_seqR ?_ | refine w_skip ?_ | refine w_ret ?_ | refine w_ops ?_ | ((refine i_cond ?_); first | refine w_condT rfl ?_ | refine w_condF rfl ?_) | ((refine i_nil ?_); first | refine w_end1 rfl ?_ | refine w_end2 rfl rfl ?_ | refine w_end3 rfl rfl rfl ?_) | ((refine i_cons ?_); first | refine k_dig rfl rfl rfl (by omega) ?_ | refine k_mv rfl ?_ | refine k_add rfl rfl (by omega) ?_ | refine k_rem rfl rfl (by omega) ?_ | refine k_lssT rfl rfl (by omega) ?_ | refine k_lssF rfl rfl (by omega) ?_))
    exact ⟨.inr rfl, rfl, rfl⟩
  | succ k ih =>
    intro n hn hb
    refine Cal.of (F := a45) rfl rfl rfl ?_
    by_cases h : n < 10
    · rw [Lib.decDigits_one h]
      have e1 : ((n : Int) % 10).toNat = n := by omega
      repeat' (first | refine w_seq ?_ | refine w_seqN ?_ | refine w_seqR ?_ | refine w_skip ?_ | refine w_ret ?_ | refine w_ops ?_ | ((refine i_cond ?_); first | refine w_condT rfl ?_ | refine w_condF rfl ?_) | ((refine i_nil ?_); first | refine w_end1 rfl ?_ | refine w_end2 rfl rfl ?_ | refine w_end3 rfl rfl rfl ?_) | ((refine i_cons ?_); first | refine k_dig rfl rfl rfl (by omega) ?_ | refine k_mv rfl ?_ | refine k_add rfl rfl (by omega) ?_ | refine k_rem rfl rfl (by omega) ?_ | refine k_lssT rfl rfl (by omega) ?_ | refine k_lssF rfl rfl (by omega) ?_))
      exact ⟨.inr rfl, rfl, by rw [e1]; rfl⟩
    · rw [Lib.decDigits, dif_neg h]
      have e1 : ((n : Int) % 10).toNat = n % 10 := by omega
      have e2 : ((n / 10 : Nat) : Int) = (n : Int) / 10 := by omega
      have k1 := ih (n / 10) (by omega) (by omega)
      rw [e2] at k1
      have hl : (Lib.decDigits (n / 10)).length ≤ 21 := by
        have := Lib.itoa_length_le ((n / 10 : Nat) : Int) (by omega) (by omega)
        rwa [Lib.itoa_nonneg] at this
      repeat' (first | refine w_seq ?_ | refine w_seqN ?_ | refine w_skip ?_ | refine w_ret ?_ | refine w_ops ?_ | ((refine i_cond ?_); refine w_condF rfl ?_) | ((refine i_nil ?_); first | refine w_end1 rfl ?_ | refine w_end2 rfl rfl ?_ | refine w_end3 rfl rfl rfl ?_) | ((refine i_cons ?_); first | refine k_dig rfl rfl rfl (by omega) ?_ | (refine k_call rfl k1 ?_; rintro v h1 ⟨rfl, rfl⟩) | refine k_cat rfl rfl (by simp only [List.length_singleton]; omega) ?_ | refine k_mv rfl ?_ | refine k_add rfl rfl (by omega) ?_ | refine k_quo rfl rfl (by omega) ?_ | refine k_rem rfl rfl (by omega) ?_ | refine k_lssF rfl rfl (by omega) ?_))
      exact ⟨.inr rfl, rfl, by rw [e1]; rfl⟩
theorem dec81p (h0 : Heap) (x : Int) (hx : 0 ≤ x ∧ x ≤ 1125899906842624) : ∃ v h', Cal FT HKt 45 [.sc (.int .i64 x)] h0 v h' ∧ h' = h0 ∧ v = .sc (tb (Lib.itoa x)) := by
  obtain ⟨n, rfl⟩ : ∃ n : Nat, x = n := ⟨x.toNat, by omega⟩
  rw [Lib.itoa_nonneg]
  exact call45 h0 n n (Nat.le_refl _) (by omega)
theorem dec81 (h0 : Heap) (x : Int) (hx : x.natAbs ≤ 1125899906842624) : ∃ v h', Cal FT HKt 45 [.sc (.int .i64 x)] h0 v h' ∧ h' = h0 ∧ v = .sc (tb (Lib.itoa x)) := by
  by_cases h : 0 ≤ x
  · exact dec81p h0 x (by omega)
  · have k1 := dec81p h0 (-x) (by omega)
    have hl := itoa_l (x := -x) (by omega)
    have e : Lib.itoa x = [45] ++ Lib.itoa (-x) := by
      obtain ⟨n, rfl⟩ : ∃ n : Nat, x = -(n : Int) := ⟨x.natAbs, by omega⟩
      rw [Lib.itoa_neg n (by omega), Int.neg_neg, Lib.itoa_nonneg]; rfl
    refine Cal.of (F := a45) rfl rfl rfl ?_
    repeat' (first | refine w_seq ?_ | refine w_seqN ?_ | refine w_seqR ?_ | refine w_ret ?_ | refine w_ops ?_ | ((refine i_cond ?_); refine w_condT rfl ?_) | ((refine i_nil ?_); first | refine w_end1 rfl ?_ | refine w_end2 rfl rfl ?_) | ((refine i_cons ?_); first | (refine k_call rfl k1 ?_; rintro v h1 ⟨rfl, rfl⟩) | refine k_cat (show _ = some (tb [45]) from rfl) rfl (by simp only [List.length_singleton]; omega) ?_ | refine k_mv rfl ?_ | refine k_neg rfl (by omega) ?_ | refine k_lssT rfl rfl (by omega) ?_))
    exact ⟨.inr rfl, rfl, by rw [e]; rfl⟩
end Go.Proofs.YtofknpknogfijaaGreatDoor


