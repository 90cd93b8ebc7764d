/- Contracts: the Builder; the text of a list of numbers. -/
import Derived.Test.YtehnalbdfnmphaaDoorT1
namespace Go.Proofs.YtehnalbdfnmphaaDoor
open Go.Ab
set_option linter.unusedVariables false
set_option maxRecDepth 20000
attribute [local irreducible] wOps wA wSeq wBlk wRound wOpsD

abbrev bz : ESz := ⟨1, some 5⟩
abbrev BL (h0 h : Heap) (B : Nat) (bs : List UInt8) : Prop := Bld 60 bz h0 h B bs
abbrev BLS (h0 h : Heap) (B : Nat) (s : SV) (bs : List UInt8) : Prop := BldS 60 bz h0 h B s bs

theorem check59 {h0 h : Heap} {B : Nat} {bs : List UInt8} (hb : BL h0 h B bs) : ∃ v h', Cal FT HKt 59 [.sc (.ptr B 0)] h v h' ∧ v = .tup [] ∧ ∃ s, BLS h0 h' B s bs ∧ readN h' B (0 + 1) 1 = some [s] := by
  obtain ⟨h1, s, e1, e2, e3⟩ := Bld.check hb
  exact ⟨_, _, Cal.hook (g := ccHook 60) rfl e1, rfl, s, e2, by simp [readN, e3, cut]⟩

theorem call31 (h0 h : Heap) (B : Nat) (bs : List UInt8) (c : UInt8) (hb : BL h0 h B bs) (hl : bs.length ≤ 1000000) :
    ∃ v h', Cal FT HKt 31 [.sc (.ptr B 0), .sc (.int .u8 (c.toNat : Int))] h v h' ∧ v = .sc .nilI ∧ BL h0 h' B (bs ++ [c]) := by
  refine Cal.of (F := a31) rfl rfl rfl ?_
  repeat' (first | refine w_seq ?_ | refine w_seqN ?_ | refine w_ret ?_ | refine w_ops ?_ | ((refine i_nil ?_); first | refine w_end0 ?_ | refine w_end1 rfl ?_ | refine w_end2 rfl rfl ?_) | ((refine i_cons ?_); first | (refine k_call rfl (check59 hb) ?_; rintro v h1 ⟨rfl, s, s1, r1⟩) | refine k_nilc rfl ?_ | refine k_fldA rfl ?_ | refine k_ld rfl r1 ?_ | (refine k_bslZ rfl rfl ?_; intro ee; have s2 := s1.grow ee) | (refine k_bapp (cs := [c]) rfl s2 rfl rfl src_z (by simp [bigN]; omega) ?_; intro s' h2 s3; obtain ⟨h3, w3, b3⟩ := s3.store) | refine k_st2 rfl rfl w3 ?_ | refine k_mv rfl ?_))
  exact ⟨.inr rfl, rfl, b3⟩
theorem call32 (h0 h : Heap) (B : Nat) (bs cs : List UInt8) (hb : BL h0 h B bs) (hl : bs.length ≤ 1000000) (hc : cs.length ≤ 1000000) :
    ∃ v h', Cal FT HKt 32 [.sc (.ptr B 0), .sc (tb cs)] h v h' ∧ BL h0 h' B (bs ++ cs) := by
  refine Cal.of (F := a32) rfl rfl rfl ?_
  repeat' (first | refine w_seq ?_ | refine w_seqN ?_ | refine w_ret ?_ | refine w_ops ?_ | ((refine i_nil ?_); first | refine w_end1 rfl ?_ | refine w_end2 rfl rfl ?_) | ((refine i_cons ?_); first | (refine k_call rfl (check59 hb) ?_; rintro v h1 ⟨rfl, s, s1, r1⟩) | refine k_nilc rfl ?_ | refine k_fldA rfl ?_ | refine k_ld rfl r1 ?_ | (refine k_bapp (cs := cs) rfl s1 rfl rfl (src_tb _ cs) (by simp only [bigN]; omega) ?_; intro s' h2 s3; obtain ⟨h3, w3, b3⟩ := s3.store) | refine k_st2 rfl rfl w3 ?_ | refine k_slen rfl ?_ | refine k_mv rfl ?_))
  exact ⟨.inr rfl, b3⟩
theorem call33 (h0 h : Heap) (B : Nat) (bs : List UInt8) (hb : BL h0 h B bs) (hl : bs.length ≤ 1000000) :
    ∃ v h', Cal FT HKt 33 [.sc (.ptr B 0)] h v h' ∧ v = .sc (tb bs) ∧ Ext h0 h' := by
  refine Cal.of (F := a33) rfl rfl rfl ?_
  obtain ⟨p, s, g1, -, g2, g3, g4, g5⟩ := hb
  have r1 : readN h B (0 + 1) 1 = some [s] := by simp [readN, g1, cut]
  rcases OwnZ.text g3 (by omega) with ⟨rfl, rfl⟩ | ⟨id, cap, cs, q1, rfl, q2, q3, q4⟩
  · repeat' (first | refine w_seq ?_ | refine w_seqN ?_ | refine w_ret ?_ | refine w_ops ?_ | refine w_opsD ?_ | refine d_one ?_ | refine d_nil ?_ | ((refine i_nil ?_); first | refine d_same ?_ | refine w_end1 rfl ?_) | ((refine i_cons ?_); first | refine k_nilc rfl ?_ | refine k_fldA rfl ?_ | refine k_ld rfl r1 ?_ | refine k_usd0 rfl ?_ | refine k_len rfl rfl ?_ | refine k_ustr0 rfl rfl ?_ | refine k_mv rfl ?_))
    exact ⟨.inr rfl, rfl, g5⟩
  · have hp : 0 < bs.length := List.length_pos_iff.2 q1
    repeat' (first | refine w_seq ?_ | refine w_seqN ?_ | refine w_ret ?_ | refine w_ops ?_ | refine w_opsD ?_ | refine d_one ?_ | refine d_nil ?_ | ((refine i_nil ?_); first | refine d_same ?_ | refine d_ord ?_ | refine w_end1 rfl ?_) | ((refine i_cons ?_); first | refine k_nilc rfl ?_ | refine k_fldA rfl ?_ | refine k_ld rfl r1 ?_ | refine k_usd rfl hp ?_ | refine k_len rfl rfl ?_ | refine k_ustr rfl rfl q2 q3 (by omega) ?_ | refine k_mv rfl ?_))
    exact ⟨.inr rfl, rfl, g5.set q4 _⟩
end Go.Proofs.YtehnalbdfnmphaaDoor
