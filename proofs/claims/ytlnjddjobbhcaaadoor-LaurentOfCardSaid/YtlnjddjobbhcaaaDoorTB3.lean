/- The Builder, with a block beside it that stays. -/
import Derived.Test.YtlnjddjobbhcaaaDoorTB2
namespace Go.Proofs.YtlnjddjobbhcaaaDoor
open Go.Ab
set_option linter.unusedVariables false
set_option maxRecDepth 20000
attribute [local irreducible] wOps wA wSeq wBlk wRound wOpsD

/-- Block q lies beside the Builder in B, whose bytes are in s. -/
structure Kq (h : Heap) (B : Nat) (s : SV) (q : Nat) (c : Blk) : Prop where
  at' : h[q]? = some c
  ne : q ≠ B
  no : NotAt s q
def BLq (h0 h : Heap) (B : Nat) (bs : List UInt8) (q : Nat) (c : Blk) : Prop :=
  ∃ p s, h[B]? = some (.cells [p, s] true ⟨0, some 90⟩) ∧ (p = .nilP ∨ p = .ptr B 0) ∧ h0.length ≤ B ∧ OwnZ bz h0 h s (u8s bs) ∧ NotAt s B ∧ Ext h0 h ∧ Kq h B s q c
theorem BLq.bl {h0 h : Heap} {B : Nat} {bs : List UInt8} {q : Nat} {c : Blk} (hb : BLq h0 h B bs q c) : BL h0 h B bs := by
  obtain ⟨p, s, h1, h2, h3, h4, h5, h6, -⟩ := hb
  exact ⟨p, s, h1, h2, h3, h4, h5, h6⟩
theorem BLq.at {h0 h : Heap} {B : Nat} {bs : List UInt8} {q : Nat} {c : Blk} (hb : BLq h0 h B bs q c) : h[q]? = some c := by
  obtain ⟨p, s, h1, h2, h3, h4, h5, h6, h7⟩ := hb
  exact h7.at'
theorem BLq.of {h0 h h1 : Heap} {B : Nat} {bs : List UInt8} {c : Blk} (hb : BL h0 h B bs) (he : Ext h h1) (hc : h1[h.length]? = some c) : BLq h0 h1 B bs h.length c := by
  obtain ⟨p, s, g1, g2, g3, g4, g5, g6⟩ := hb
  refine ⟨p, s, he.get _ _ g1, g2, g3, g4.ext he, g5, g6.trans he, hc, ?_, ?_⟩
  · have := (List.getElem?_eq_some_iff.1 g1).1; omega
  · intro o n c' e
    rcases g4 with ⟨rfl, -⟩ | ⟨id, cap, cs, rfl, -, -, k, -⟩
    · cases e
    · have := (List.getElem?_eq_some_iff.1 k).1
      injection e with e1
      omega
theorem check87q {h0 h : Heap} {B : Nat} {bs : List UInt8} {q : Nat} {c : Blk} (hb : BLq h0 h B bs q c) : ∃ v h', Cal FT HKt 87 [.sc (.ptr B 0)] h v h' ∧ v = .tup [] ∧ ∃ s, BLS h0 h' B s bs ∧ Kq h' B s q c ∧ readN h' B (0 + 1) 1 = some [s] := by
  obtain ⟨p, s, h1, hp, h2, h3, h4, h5, hk⟩ := hb
  have hB : B < h.length := (List.getElem?_eq_some_iff.1 h1).1
  rcases hp with rfl | rfl
  · refine ⟨_, h.set B (.cells [.ptr B 0, s] true ⟨0, some 90⟩), Cal.hook (g := ccHook 90) rfl (by simp only [ccHook, h1, if_true]), rfl, s, ⟨⟨s, by rw [List.getElem?_set_self hB]⟩, h2, h3.away h4 _, h4, h5.set h2 _⟩, ⟨by rw [List.getElem?_set_ne (fun e => hk.ne e.symm)]; exact hk.at', hk.ne, hk.no⟩, ?_⟩
    simp only [readN, List.getElem?_set_self hB, cut]; rfl
  · refine ⟨_, h, Cal.hook (g := ccHook 90) rfl (by simp only [ccHook, h1]; rw [if_pos (by simp)]), rfl, s, ⟨⟨s, h1⟩, h2, h3, h4, h5⟩, hk, ?_⟩
    simp only [readN, h1, cut]; rfl
theorem Kq.grow {h h' : Heap} {B : Nat} {s : SV} {q : Nat} {c : Blk} (k : Kq h B s q c) (he : Ext h h') : Kq h' B s q c := ⟨he.get _ _ k.at', k.ne, k.no⟩
theorem storeq {h0 h : Heap} {B : Nat} {s : SV} {bs : List UInt8} {q : Nat} {c : Blk} (hb : BLS h0 h B s bs) (k : Kq h B s q c) : ∃ h', writeN h B (0 + 1) [s] = some h' ∧ BLq h0 h' B bs q c := by
  obtain ⟨x, hq⟩ := hb.blk
  have hB : B < h.length := (List.getElem?_eq_some_iff.1 hq).1
  refine ⟨h.set B (.cells [.ptr B 0, s] true ⟨0, some 90⟩), ?_, .ptr B 0, s, by rw [List.getElem?_set_self hB], .inr rfl, hb.low, hb.own.away hb.not _, hb.not, hb.ext.set hb.low _, by rw [List.getElem?_set_ne (fun e => k.ne e.symm)]; exact k.at', k.ne, k.no⟩
  simp only [writeN, hq]
  rw [if_pos (by simp)]
  simp [splice]
section
variable {FT : FuncId → Option AFun} {HK : FuncId → Option Hook} {E : Env} {h : Heap} {K : Env → Heap → Prop} {d : Option Nat} {r : List AOp} {x y : AO}
theorem k_bappq {h0 : Heap} {B : Nat} {s t : SV} {bs cs : List UInt8} {bytes : Nat} {zz : List SV} {q : Nat} {c : Blk} (hb : BLS h0 h B s bs) (k : Kq h B s q c) (hx : evS E x = some s) (hy : evS E y = some t) (hs : srcCells h 1 t = some (cs.length, u8s cs)) (hl : (bs.length + cs.length) * (bytes + 1) ≤ bigN)
    (hw : ∀ s' h', BLS h0 h' B s' (bs ++ cs) → Kq h' B s' q c → wOps FT HK r (bindE d (some (.sc s')) E) h' K) : wOps FT HK (⟨d, .app bz bytes zz x y, none⟩ :: r) E h K := by
  obtain ⟨s', h', h1, h2, h3, h4, h5⟩ := ownz_app (z := bz) (ws := u8s cs) (bytes := bytes) rfl hb.ext hb.own (by rw [u8s_len, u8s_len]; exact hl)
  obtain ⟨p, hq⟩ := hb.blk
  obtain ⟨k1, k2⟩ := h5 B _ hq hb.not
  obtain ⟨m1, m2⟩ := h5 q _ k.at' k.no
  refine op_ok (v := some (.sc s')) (h' := h') rfl rfl ?_ (hw s' h' ⟨⟨p, k1⟩, hb.low, by rw [u8s_app]; exact h2, k2, h3⟩ ⟨m1, k.ne, m2⟩)
  rw [u8s_len] at h1
  simp only [step1, hx, hy, Option.bind_some, hs, h1]
  rfl
end
theorem call65q (h0 h : Heap) (B : Nat) (bs : List UInt8) (c : UInt8) (q : Nat) (k : Blk) (hb : BLq h0 h B bs q k) (hl : bs.length ≤ 1000000) :
    ∃ v h', Cal FT HKt 65 [.sc (.ptr B 0), .sc (.int .u8 (c.toNat : Int))] h v h' ∧ v = .sc .nilI ∧ BLq h0 h' B (bs ++ [c]) q k := by
  refine Cal.of (F := a65) rfl rfl rfl ?_
  repeat' (first | refine w_seq ?_ | refine w_seqN ?_ | refine w_seqX ?_ | refine w_seqR ?_ | refine w_blk ?_ | refine w_blkN ?_ | refine w_blkX ?_ | refine w_blkR ?_ | refine w_skip ?_ | refine w_ret ?_ | refine w_exit ?_ | refine w_ops ?_ | refine w_opsD ?_ | refine d_one ?_ | refine d_nil ?_ | (refine w_blkY ?_ ?_; rfl) | ((refine i_cond ?_); first | refine w_condT rfl ?_ | refine w_condF rfl ?_) | ((refine i_nil ?_); first | refine d_same ?_ | refine d_ord ?_ | refine d_ext ⟨_, rfl⟩ ?_ | refine d_ext (extA _ _ _) ?_ | refine d_ext (by assumption) ?_ | refine w_end0 ?_ | refine w_end1 rfl ?_ | refine w_end2 rfl rfl ?_ | refine w_end3 rfl rfl rfl ?_ | refine w_end4 rfl rfl rfl rfl ?_ | refine w_end5 rfl rfl rfl rfl rfl ?_ | refine w_end6 rfl rfl rfl rfl rfl rfl ?_ | refine w_end7 rfl rfl rfl rfl rfl rfl rfl ?_ | refine w_end8 rfl rfl rfl rfl rfl rfl rfl rfl ?_ | refine w_end9 rfl rfl rfl rfl rfl rfl rfl rfl rfl ?_ | refine w_end10 rfl rfl rfl rfl rfl rfl rfl rfl rfl rfl ?_ | refine w_end11 rfl rfl rfl rfl rfl rfl rfl rfl rfl rfl rfl ?_ | refine w_end12 rfl rfl rfl rfl rfl rfl rfl rfl rfl rfl rfl rfl ?_ | refine w_end13 rfl rfl rfl rfl rfl rfl rfl rfl rfl rfl rfl rfl rfl ?_ | refine w_end14 rfl rfl rfl rfl rfl rfl rfl rfl rfl rfl rfl rfl rfl rfl ?_ | refine w_end15 rfl rfl rfl rfl rfl rfl rfl rfl rfl rfl rfl rfl rfl rfl rfl ?_ | refine w_end16 rfl rfl rfl rfl rfl rfl rfl rfl rfl rfl rfl rfl rfl rfl rfl rfl ?_) | ((refine i_cons ?_); first | (refine k_call rfl (check87q hb) ?_; rintro v h1 ⟨rfl, s, s1, q1, r1⟩) | refine k_nilc rfl ?_ | refine k_fldA rfl ?_ | refine k_ld rfl r1 ?_ | (refine k_bslZ rfl rfl ?_; intro ee; have s2 := s1.grow ee; have q2 := q1.grow ee) | (refine k_bappq (cs := [c]) s2 q2 rfl rfl src_z (by simp [bigN]; omega) ?_; intro s' h2 s3 q3; obtain ⟨h3, w3, b3⟩ := storeq s3 q3) | refine k_st2 rfl rfl w3 ?_ | refine k_skip rfl ?_ | refine k_skipU rfl ?_ | refine k_want rfl ?_ | refine k_mv rfl ?_ | refine k_pickT rfl rfl ?_ | refine k_pickF rfl rfl ?_ | refine k_notT rfl ?_ | refine k_notF rfl ?_ | refine k_add rfl rfl (by omega) ?_ | refine k_sub rfl rfl (by omega) ?_ | refine k_mul rfl rfl (by omega) ?_ | refine k_neg rfl (by omega) ?_ | refine k_quo rfl rfl (by omega) ?_ | refine k_rem rfl rfl (by omega) ?_ | refine k_conv rfl (by omega) ?_ | refine k_max rfl rfl ?_ | refine k_min rfl rfl ?_ | refine k_lssT rfl rfl (by omega) ?_ | refine k_lssF rfl rfl (by omega) ?_ | refine k_lss rfl rfl (fun hc => ?_) (fun hc => ?_) | refine k_leqT rfl rfl (by omega) ?_ | refine k_leqF rfl rfl (by omega) ?_ | refine k_leq rfl rfl (fun hc => ?_) (fun hc => ?_) | refine k_gtrT rfl rfl (by omega) ?_ | refine k_gtrF rfl rfl (by omega) ?_ | refine k_gtr rfl rfl (fun hc => ?_) (fun hc => ?_) | refine k_geqT rfl rfl (by omega) ?_ | refine k_geqF rfl rfl (by omega) ?_ | refine k_geq rfl rfl (fun hc => ?_) (fun hc => ?_) | refine k_eqlT rfl rfl (by omega) ?_ | refine k_eqlF rfl rfl (by omega) ?_ | refine k_eql rfl rfl (fun hc => ?_) (fun hc => ?_) | refine k_neqT rfl rfl (by omega) ?_ | refine k_neqF rfl rfl (by omega) ?_ | refine k_neq rfl rfl (fun hc => ?_) (fun hc => ?_) | refine k_len rfl rfl ?_ | refine k_ok rfl rfl ?_))
  exact ⟨.inr rfl, rfl, b3⟩
theorem call66q (h0 h : Heap) (B : Nat) (bs cs : List UInt8) (q : Nat) (k : Blk) (hb : BLq h0 h B bs q k) (hl : bs.length ≤ 1000000) (hc : cs.length ≤ 1000000) :
    ∃ v h', Cal FT HKt 66 [.sc (.ptr B 0), .sc (tb cs)] h v h' ∧ BLq h0 h' B (bs ++ cs) q k := by
  refine Cal.of (F := a66) rfl rfl rfl ?_
  repeat' (first | refine w_seq ?_ | refine w_seqN ?_ | refine w_seqX ?_ | refine w_seqR ?_ | refine w_blk ?_ | refine w_blkN ?_ | refine w_blkX ?_ | refine w_blkR ?_ | refine w_skip ?_ | refine w_ret ?_ | refine w_exit ?_ | refine w_ops ?_ | refine w_opsD ?_ | refine d_one ?_ | refine d_nil ?_ | (refine w_blkY ?_ ?_; rfl) | ((refine i_cond ?_); first | refine w_condT rfl ?_ | refine w_condF rfl ?_) | ((refine i_nil ?_); first | refine d_same ?_ | refine d_ord ?_ | refine d_ext ⟨_, rfl⟩ ?_ | refine d_ext (extA _ _ _) ?_ | refine d_ext (by assumption) ?_ | refine w_end0 ?_ | refine w_end1 rfl ?_ | refine w_end2 rfl rfl ?_ | refine w_end3 rfl rfl rfl ?_ | refine w_end4 rfl rfl rfl rfl ?_ | refine w_end5 rfl rfl rfl rfl rfl ?_ | refine w_end6 rfl rfl rfl rfl rfl rfl ?_ | refine w_end7 rfl rfl rfl rfl rfl rfl rfl ?_ | refine w_end8 rfl rfl rfl rfl rfl rfl rfl rfl ?_ | refine w_end9 rfl rfl rfl rfl rfl rfl rfl rfl rfl ?_ | refine w_end10 rfl rfl rfl rfl rfl rfl rfl rfl rfl rfl ?_ | refine w_end11 rfl rfl rfl rfl rfl rfl rfl rfl rfl rfl rfl ?_ | refine w_end12 rfl rfl rfl rfl rfl rfl rfl rfl rfl rfl rfl rfl ?_ | refine w_end13 rfl rfl rfl rfl rfl rfl rfl rfl rfl rfl rfl rfl rfl ?_ | refine w_end14 rfl rfl rfl rfl rfl rfl rfl rfl rfl rfl rfl rfl rfl rfl ?_ | refine w_end15 rfl rfl rfl rfl rfl rfl rfl rfl rfl rfl rfl rfl rfl rfl rfl ?_ | refine w_end16 rfl rfl rfl rfl rfl rfl rfl rfl rfl rfl rfl rfl rfl rfl rfl rfl ?_) | ((refine i_cons ?_); first | (refine k_call rfl (check87q hb) ?_; rintro v h1 ⟨rfl, s, s1, q1, r1⟩) | refine k_nilc rfl ?_ | refine k_fldA rfl ?_ | refine k_ld rfl r1 ?_ | (refine k_bappq (cs := cs) s1 q1 rfl rfl (src_tb _ cs) (by simp only [bigN]; omega) ?_; intro s' h2 s3 q3; obtain ⟨h3, w3, b3⟩ := storeq s3 q3) | refine k_st2 rfl rfl w3 ?_ | refine k_slen rfl ?_ | refine k_skip rfl ?_ | refine k_skipU rfl ?_ | refine k_want rfl ?_ | refine k_mv rfl ?_ | refine k_pickT rfl rfl ?_ | refine k_pickF rfl rfl ?_ | refine k_notT rfl ?_ | refine k_notF rfl ?_ | refine k_add rfl rfl (by omega) ?_ | refine k_sub rfl rfl (by omega) ?_ | refine k_mul rfl rfl (by omega) ?_ | refine k_neg rfl (by omega) ?_ | refine k_quo rfl rfl (by omega) ?_ | refine k_rem rfl rfl (by omega) ?_ | refine k_conv rfl (by omega) ?_ | refine k_max rfl rfl ?_ | refine k_min rfl rfl ?_ | refine k_lssT rfl rfl (by omega) ?_ | refine k_lssF rfl rfl (by omega) ?_ | refine k_lss rfl rfl (fun hc => ?_) (fun hc => ?_) | refine k_leqT rfl rfl (by omega) ?_ | refine k_leqF rfl rfl (by omega) ?_ | refine k_leq rfl rfl (fun hc => ?_) (fun hc => ?_) | refine k_gtrT rfl rfl (by omega) ?_ | refine k_gtrF rfl rfl (by omega) ?_ | refine k_gtr rfl rfl (fun hc => ?_) (fun hc => ?_) | refine k_geqT rfl rfl (by omega) ?_ | refine k_geqF rfl rfl (by omega) ?_ | refine k_geq rfl rfl (fun hc => ?_) (fun hc => ?_) | refine k_eqlT rfl rfl (by omega) ?_ | refine k_eqlF rfl rfl (by omega) ?_ | refine k_eql rfl rfl (fun hc => ?_) (fun hc => ?_) | refine k_neqT rfl rfl (by omega) ?_ | refine k_neqF rfl rfl (by omega) ?_ | refine k_neq rfl rfl (fun hc => ?_) (fun hc => ?_) | refine k_len rfl rfl ?_ | refine k_ok rfl rfl ?_))
  exact ⟨.inr rfl, b3⟩
end Go.Proofs.YtlnjddjobbhcaaaDoor
