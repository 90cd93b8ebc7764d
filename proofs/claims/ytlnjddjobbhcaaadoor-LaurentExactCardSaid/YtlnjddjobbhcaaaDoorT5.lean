/- copyCheck; the hooks over which the wakening is reckoned. -/
import Derived.Test.YtlnjddjobbhcaaaDoorCode
import Derived.Test.YtlnjddjobbhcaaaDoorAb34
import Derived.WalkKit
import Derived.Laws.Externs
import Derived.Test.YtlnjddjobbhcaaaDoorAb32
import Derived.Shelf.LaysM
import Derived.Shelf.Strconv.Itoa3
import Derived.Test.YtlnjddjobbhcaaaDoorProg
import Derived.Test.YtlnjddjobbhcaaaDoorAb32
namespace Go.Proofs.YtlnjddjobbhcaaaDoor
open Go.Ab Go.RowKit
set_option linter.unusedVariables false

theorem sizeB : (Tryd.prog.info? 90).map (·.size) = some 2 := by kernel_rfl
theorem liesB : liesAt Tryd.prog Tryd.prog.depth 90 (2 / Tryd.prog.cellsOf 90) 0 90 1 = true := by kernel_rfl

set_option maxRecDepth 100000 in
theorem cc_used (b : Nat) (w : World) (h0 : w.cell? ⟨b, 0, none⟩ = some (.pointer (some ⟨b, 0, none⟩))) :
    Calls Tryd.prog 87 #[.pointer (some ⟨b, 0, none⟩)] w fun e w' => e = .returned (.tuple #[]) ∧ w' = w := by
  obtain ⟨j, hj, hjs⟩ := Option.map_eq_some_iff.1 sizeB
  go_enter Tryd.func87, Tryd.ntmps87
  go_wp2
  rw [Lib.run_neq_ptr_same w _ Tryd.underlying87 hj]
  go_wp2
  go_end0
  exact ⟨rfl, rfl⟩

set_option maxHeartbeats 1000000 in
set_option maxRecDepth 100000 in
theorem cc_new (b : Nat) (w : World) (h0 : w.cell? ⟨b, 0, none⟩ = some (.pointer none)) (hsh : w.shape? b = some (90, 2)) (hfz : w.frozen? ⟨b, 0, none⟩ = false) :
    Calls Tryd.prog 87 #[.pointer (some ⟨b, 0, none⟩)] w fun e w' => e = .returned (.tuple #[]) ∧ w' = w.setCell ⟨b, 0, none⟩ (.pointer (some ⟨b, 0, none⟩)) := by
  obtain ⟨j, hj, hjs⟩ := Option.map_eq_some_iff.1 sizeB
  go_enter Tryd.func87, Tryd.ntmps87
  go_wp2
  rw [Lib.run_to_unsafe w ⟨b, 0, none⟩ Tryd.underlying87 Tryd.underlying132 hj (by rw [hjs]; decide) hsh (Nat.zero_lt_succ 1)]
  simp only [Result.andThen]
  rw [Oper.upon_value]
  go_wp2
  rw [run_callFunc_extern Tryd.func101 (by kernel_rfl) (by kernel_rfl) (by kernel_rfl) (e := Extern.AbiNoEscape.same) (by kernel_rfl)]
  rw [Lib.run_noEscape]
  simp only [Result.andThen]
  rw [Oper.upon_value]
  go_wp2
  rw [Lib.run_from_unsafe w ⟨b, 0, none⟩ Tryd.underlying132 Tryd.underlying87 hj hsh liesB]
  simp only [Result.andThen]
  rw [Oper.upon_value]
  go_wp2
  go_end0
  exact ⟨rfl, rfl⟩

def HK0 : FuncId → Option Hook := fun f => if f = 87 then some (ccHook 90) else none
theorem HK0_ok [Base] : HKok Tryd.prog HK0 := fun f g h => by
  unfold HK0 at h
  split at h
  · rename_i hf
    simp only [Option.some.injEq] at h
    subst hf h
    exact ccHook_ok (by kernel_rfl) cc_used cc_new
  · simp at h

/-- The hooks over which the wakening is reckoned. -/
def HKs : FuncId → Option Hook := fun f => if f = 67 then some itoaHookB else HK0 f
end Go.Proofs.YtlnjddjobbhcaaaDoor


namespace Go.Proofs.YtlnjddjobbhcaaaDoor
open Go.Ab
theorem awake_run : isT (callA FT HKs 1000 10 [] []) = true := by decide +kernel
theorem awake_ok [Base] (h : HKok Tryd.prog HKs) : HkOK Tryd.prog 10 (constHook (.sc (.bool true))) := by
  obtain ⟨h', hr⟩ := isT_some awake_run
  exact constHook_same ft_ok h (fun β β' c h => by cases h; exact .bool _) hr
end Go.Proofs.YtlnjddjobbhcaaaDoor



namespace Go.Proofs.YtlnjddjobbhcaaaDoor
open Go.Ab
set_option linter.unusedVariables false

def HKt : FuncId → Option Hook := fun f => if f = 67 then some itoaHook else if f = 10 then some (constHook (.sc (.bool true))) else HK0 f
theorem awake_callT (h : Heap) : ∃ v h', Cal FT HKt 10 [] h v h' ∧ v = .sc (.bool true) ∧ h' = h := ⟨_, _, Cal.hook (g := constHook (.sc (.bool true))) rfl rfl, rfl, rfl⟩
theorem itoa_call {h : Heap} (n : Int) (hn : -9223372036854775808 ≤ n ∧ n ≤ 9223372036854775807) : ∃ v h', Cal FT HKt 67 [.sc (.int .i64 n)] h v h' ∧ h' = h ∧ v = .sc (tb (Lib.itoa n)) :=
  ⟨_, _, Cal.hook (g := itoaHook) rfl (by simp only [itoaHook]; rw [if_pos hn]), rfl, rfl⟩
end Go.Proofs.YtlnjddjobbhcaaaDoor



namespace Go.Proofs.YtlnjddjobbhcaaaDoor
open Go.Ab
set_option linter.unusedVariables false
set_option maxRecDepth 20000
attribute [local irreducible] wOps wA wSeq wBlk wRound wOpsD

abbrev bz : ESz := ⟨1, some 5⟩
abbrev BL (h0 h : Heap) (B : Nat) (bs : List UInt8) : Prop := Bld 90 bz h0 h B bs
abbrev BLS (h0 h : Heap) (B : Nat) (s : SV) (bs : List UInt8) : Prop := BldS 90 bz h0 h B s bs

theorem check87 {h0 h : Heap} {B : Nat} {bs : List UInt8} (hb : BL h0 h B bs) : ∃ v h', Cal FT HKt 87 [.sc (.ptr B 0)] h v h' ∧ v = .tup [] ∧ ∃ s, BLS h0 h' B s bs ∧ readN h' B (0 + 1) 1 = some [s] := by
  obtain ⟨h1, s, e1, e2, e3⟩ := Bld.check hb
  exact ⟨_, _, Cal.hook (g := ccHook 90) rfl e1, rfl, s, e2, by simp [readN, e3, cut]⟩

theorem call65 (h0 h : Heap) (B : Nat) (bs : List UInt8) (c : UInt8) (hb : BL h0 h B bs) (hl : bs.length ≤ 1000000) :
    ∃ v h', Cal FT HKt 65 [.sc (.ptr B 0), .sc (.int .u8 (c.toNat : Int))] h v h' ∧ v = .sc .nilI ∧ BL h0 h' B (bs ++ [c]) := by
  refine Cal.of (F := a65) rfl rfl rfl ?_
  repeat' (first | refine w_seq ?_ | refine w_seqN ?_ | refine w_ret ?_ | refine w_ops ?_ | ((refine i_nil ?_); first | refine w_end0 ?_ | refine w_end1 rfl ?_ | refine w_end2 rfl rfl ?_) | ((refine i_cons ?_); first | (refine k_call rfl (check87 hb) ?_; rintro v h1 ⟨rfl, s, s1, r1⟩) | refine k_nilc rfl ?_ | refine k_fldA rfl ?_ | refine k_ld rfl r1 ?_ | (refine k_bslZ rfl rfl ?_; intro ee; have s2 := s1.grow ee) | (refine k_bapp (cs := [c]) rfl s2 rfl rfl src_z (by simp [bigN]; omega) ?_; intro s' h2 s3; obtain ⟨h3, w3, b3⟩ := s3.store) | refine k_st2 rfl rfl w3 ?_ | refine k_mv rfl ?_))
  exact ⟨.inr rfl, rfl, b3⟩
theorem call66 (h0 h : Heap) (B : Nat) (bs cs : List UInt8) (hb : BL h0 h B bs) (hl : bs.length ≤ 1000000) (hc : cs.length ≤ 1000000) :
    ∃ v h', Cal FT HKt 66 [.sc (.ptr B 0), .sc (tb cs)] h v h' ∧ BL h0 h' B (bs ++ cs) := by
  refine Cal.of (F := a66) rfl rfl rfl ?_
  repeat' (first | refine w_seq ?_ | refine w_seqN ?_ | refine w_ret ?_ | refine w_ops ?_ | ((refine i_nil ?_); first | refine w_end1 rfl ?_ | refine w_end2 rfl rfl ?_) | ((refine i_cons ?_); first | (refine k_call rfl (check87 hb) ?_; rintro v h1 ⟨rfl, s, s1, r1⟩) | refine k_nilc rfl ?_ | refine k_fldA rfl ?_ | refine k_ld rfl r1 ?_ | (refine k_bapp (cs := cs) rfl s1 rfl rfl (src_tb _ cs) (by simp only [bigN]; omega) ?_; intro s' h2 s3; obtain ⟨h3, w3, b3⟩ := s3.store) | refine k_st2 rfl rfl w3 ?_ | refine k_slen rfl ?_ | refine k_mv rfl ?_))
  exact ⟨.inr rfl, b3⟩
theorem call68 (h0 h : Heap) (B : Nat) (bs : List UInt8) (hb : BL h0 h B bs) (hl : bs.length ≤ 1000000) :
    ∃ v h', Cal FT HKt 68 [.sc (.ptr B 0)] h v h' ∧ v = .sc (tb bs) ∧ Ext h0 h' := by
  refine Cal.of (F := a68) rfl rfl rfl ?_
  obtain ⟨p, s, g1, -, g2, g3, g4, g5⟩ := hb
  have r1 : readN h B (0 + 1) 1 = some [s] := by simp [readN, g1, cut]
  rcases OwnZ.text g3 (by omega) with ⟨rfl, rfl⟩ | ⟨id, cap, cs, q1, rfl, q2, q3, q4⟩
  · repeat' (first | refine w_seq ?_ | refine w_seqN ?_ | refine w_ret ?_ | refine w_ops ?_ | refine w_opsD ?_ | refine d_one ?_ | refine d_nil ?_ | ((refine i_nil ?_); first | refine d_same ?_ | refine w_end1 rfl ?_) | ((refine i_cons ?_); first | refine k_nilc rfl ?_ | refine k_fldA rfl ?_ | refine k_ld rfl r1 ?_ | refine k_usd0 rfl ?_ | refine k_len rfl rfl ?_ | refine k_ustr0 rfl rfl ?_ | refine k_mv rfl ?_))
    exact ⟨.inr rfl, rfl, g5⟩
  · have hp : 0 < bs.length := List.length_pos_iff.2 q1
    repeat' (first | refine w_seq ?_ | refine w_seqN ?_ | refine w_ret ?_ | refine w_ops ?_ | refine w_opsD ?_ | refine d_one ?_ | refine d_nil ?_ | ((refine i_nil ?_); first | refine d_same ?_ | refine d_ord ?_ | refine w_end1 rfl ?_) | ((refine i_cons ?_); first | refine k_nilc rfl ?_ | refine k_fldA rfl ?_ | refine k_ld rfl r1 ?_ | refine k_usd rfl hp ?_ | refine k_len rfl rfl ?_ | refine k_ustr rfl rfl q2 q3 (by omega) ?_ | refine k_mv rfl ?_))
    exact ⟨.inr rfl, rfl, g5.set q4 _⟩
end Go.Proofs.YtlnjddjobbhcaaaDoor



namespace Go.Proofs.YtlnjddjobbhcaaaDoor
open Go.Shelf
def laysM171_ren : Go.Shelf.Ren := ⟨fun | 171 => 67 | 243 => 88 | 246 => 102 | 283 => 108 | 284 => 109 | 285 => 110 | 286 => 111 | 129 => 103 | 317 => 122 | 318 => 123 | 319 => 124 | 320 => 125 | 337 => 131 | 338 => 132 | n => n, fun | 3 => 3 | 9 => 9 | 2 => 2 | 4 => 4 | 171 => 139 | 0 => 0 | 53 => 65 | 37 => 88 | 5 => 5 | 173 => 141 | 212 => 153 | 51 => 151 | 20 => 20 | 213 => 154 | 46 => 98 | 232 => 164 | 233 => 165 | n => n, fun | 17 => 2 | 18 => 3 | 19 => 4 | n => n⟩
theorem laysM171 : Go.Proofs.LaysM.n171 Tryd.prog laysM171_ren := {
  mixed := by kernel_rfl
  f129 := Tryd.func103.trans (congrArg some (by kernel_rfl))
  f171 := Tryd.func67.trans (congrArg some (by kernel_rfl))
  f243 := Tryd.func88.trans (congrArg some (by kernel_rfl))
  f246 := Tryd.func102.trans (congrArg some (by kernel_rfl))
  f283 := Tryd.func108.trans (congrArg some (by kernel_rfl))
  f284 := Tryd.func109.trans (congrArg some (by kernel_rfl))
  f285 := Tryd.func110.trans (congrArg some (by kernel_rfl))
  f286 := Tryd.func111.trans (congrArg some (by kernel_rfl))
  f317 := Tryd.func122.trans (congrArg some (by kernel_rfl))
  f318 := Tryd.func123.trans (congrArg some (by kernel_rfl))
  f319 := Tryd.func124.trans (congrArg some (by kernel_rfl))
  f320 := Tryd.func125.trans (congrArg some (by kernel_rfl))
  f337 := Tryd.func131.trans (congrArg some (by kernel_rfl))
  f338 := Tryd.func132.trans (congrArg some (by kernel_rfl))
  t0 := Tryd.underlying0
  a0 := Tryd.isAgg0
  z0 := Tryd.sizeOf0
  v0 := Tryd.zeroValue0
  t2 := Tryd.underlying2
  a2 := Tryd.isAgg2
  z2 := Tryd.sizeOf2
  v2 := Tryd.zeroValue2
  t3 := Tryd.underlying3
  a3 := Tryd.isAgg3
  z3 := Tryd.sizeOf3
  v3 := Tryd.zeroValue3
  t4 := Tryd.underlying4
  a4 := Tryd.isAgg4
  z4 := Tryd.sizeOf4
  v4 := Tryd.zeroValue4
  t5 := Tryd.underlying5
  a5 := Tryd.isAgg5
  z5 := Tryd.sizeOf5
  v5 := Tryd.zeroValue5
  t9 := Tryd.underlying9
  a9 := Tryd.isAgg9
  z9 := Tryd.sizeOf9
  v9 := Tryd.zeroValue9
  t20 := Tryd.underlying20
  a20 := Tryd.isAgg20
  z20 := Tryd.sizeOf20
  v20 := Tryd.zeroValue20
  t37 := Tryd.underlying88
  a37 := Tryd.isAgg88
  z37 := Tryd.sizeOf88
  v37 := Tryd.zeroValue88
  t46 := Tryd.underlying98
  a46 := Tryd.isAgg98
  z46 := Tryd.sizeOf98
  v46 := Tryd.zeroValue98
  t51 := Tryd.underlying151
  a51 := Tryd.isAgg151
  z51 := Tryd.sizeOf151
  v51 := Tryd.zeroValue151
  t53 := Tryd.underlying65
  a53 := Tryd.isAgg65
  z53 := Tryd.sizeOf65
  v53 := Tryd.zeroValue65
  t171 := Tryd.underlying139
  a171 := Tryd.isAgg139
  z171 := Tryd.sizeOf139
  v171 := Tryd.zeroValue139
  t173 := Tryd.underlying141
  a173 := Tryd.isAgg141
  z173 := Tryd.sizeOf141
  v173 := Tryd.zeroValue141
  t212 := Tryd.underlying153
  a212 := Tryd.isAgg153
  z212 := Tryd.sizeOf153
  v212 := Tryd.zeroValue153
  t213 := Tryd.underlying154
  a213 := Tryd.isAgg154
  z213 := Tryd.sizeOf154
  t232 := Tryd.underlying164
  a232 := Tryd.isAgg164
  z232 := Tryd.sizeOf164
  v232 := Tryd.zeroValue164
  t233 := Tryd.underlying165
  a233 := Tryd.isAgg165
  z233 := Tryd.sizeOf165
  v233 := Tryd.zeroValue165
  g17 := by kernel_rfl
  g18 := by kernel_rfl
  g19 := by kernel_rfl
  i0 := by kernel_rfl
  i2 := by kernel_rfl
  i3 := by kernel_rfl
  i4 := by kernel_rfl
  i5 := by kernel_rfl
  i9 := by kernel_rfl
  i20 := by kernel_rfl
  i37 := by kernel_rfl
  i46 := by kernel_rfl
  i51 := by kernel_rfl
  i53 := by kernel_rfl
  i171 := by kernel_rfl
  i173 := by kernel_rfl
  i212 := by kernel_rfl
  i232 := by kernel_rfl
  i233 := by kernel_rfl
  m17 := by kernel_rfl
  m18 := by kernel_rfl
  m19 := by kernel_rfl }
open Go.RowKit Go.Sort Go.Lib in
theorem strconv_Itoa (n : Int) (h0 : -9223372036854775808 ≤ n) (h1 : n ≤ 9223372036854775807) (w : World) (htab : Lib.TabIs Tryd.prog w "internal/strconv.uint64pow10" .u64 Lib.pow10Tab) :
    Calls Tryd.prog 67 #[.int .i64 n] w fun e w' => e = .returned (.string ⟨(Lib.itoa n).toArray⟩) ∧ ∃ k os, w' = grow (w.drewN k) os := Any.strconv_Itoa laysM171 n h0 h1 w htab
end Go.Proofs.YtlnjddjobbhcaaaDoor



/- The hooks are sound, in every world that holds what the row lists. -/
namespace Go.Proofs.YtlnjddjobbhcaaaDoor
open Go.Ab
set_option linter.unusedVariables false

/-- What the package variables hold. -/
structure Facts (W : World) : Prop where
  pow : Lib.TabIs Tryd.prog W "internal/strconv.uint64pow10" .u64 Lib.pow10Tab

abbrev BW (W : World) : Base := ⟨W.heap.size, W⟩
section
variable (W : World) (hF : Facts W)
include hF
theorem ok_itoa : @HkOK (BW W) Tryd.prog 67 itoaHook := by
  letI : Base := BW W
  exact itoaHook_ok (g := 2) (nm := "internal/strconv.uint64pow10") (by kernel_rfl) (lt_of_tab (by kernel_rfl) hF.pow) (by kernel_rfl) hF.pow fun n h1 h2 w h3 => strconv_Itoa n h1 h2 w h3
theorem HKs_ok : @HKok (BW W) Tryd.prog HKs := by
  letI : Base := BW W
  intro f g h
  unfold HKs at h
  split at h
  · rename_i hf; simp only [Option.some.injEq] at h; subst hf h; exact (ok_itoa W hF).less itoaHookB_less
  · exact HK0_ok f g h
theorem HKt_ok : @HKok (BW W) Tryd.prog HKt := by
  letI : Base := BW W
  intro f g h
  unfold HKt at h
  split at h
  · rename_i hf; simp only [Option.some.injEq] at h; subst hf h; exact ok_itoa W hF
  split at h
  · rename_i hf; simp only [Option.some.injEq] at h; subst hf h; exact awake_ok (HKs_ok W hF)
  · exact HK0_ok f g h
end
end Go.Proofs.YtlnjddjobbhcaaaDoor


