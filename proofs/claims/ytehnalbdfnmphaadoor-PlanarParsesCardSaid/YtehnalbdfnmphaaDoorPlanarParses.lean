/- The law PlanarParses, reckoned. -/
import Derived.Test.YtehnalbdfnmphaaDoorPQ6
import Derived.Test.YtehnalbdfnmphaaDoorD6
import Derived.Test.YtehnalbdfnmphaaDoorRows
import Derived.Test.YtehnalbdfnmphaaDoorCards
import Derived.Test.YtehnalbdfnmphaaDoorTie
import Derived.MakeChecks
import Derived.Lay
import Derived.Shelf.Vars
import Derived.WalkKit
import Derived.ProofKit
import Derived.OpenShut
import Derived.ShutString
import Derived.ChangeOld
import Derived.Below
import Derived.LaidMore
import Derived.Stop.Joined
import Derived.SevenTiedAt
namespace Go.Proofs.YtehnalbdfnmphaaDoor
open Go.Ab
set_option linter.unusedVariables false
set_option linter.unusedSimpArgs false
set_option maxRecDepth 20000
set_option maxHeartbeats 4000000
attribute [local irreducible] wOps wA wSeq wBlk wRound wRoundI wOpsD

theorem parse_c (h : Heap) (s : List UInt8) : ∃ v h', Cal FT HKt 22 [.sc (tb s)] h v h' ∧ DecV (parR s) h v h' := by
  cases hp : parR s with
  | err e =>
    obtain ⟨v, h', a, rfl, rfl⟩ := parse_err (h := h) hp
    exact ⟨_, _, a, Ext.refl _, rfl⟩
  | ok xs ms l =>
    obtain ⟨v, h', a, rfl, rfl⟩ := parse_ok (h := h) hp
    exact ⟨_, _, a, ⟨_, rfl⟩, _, _, rfl, exL (k := 0) rfl rfl, exL (k := 1) rfl rfl⟩
theorem parR_pvs {s : List UInt8} {xs ms : List Int} {l : Nat} (h : parR s = .ok xs ms l) : ∃ z, PV xs ms z := by
  unfold parR at h
  split at h
  · cases h
  split at h
  · cases h
  split at h
  · cases h
  split at h
  · split at h
    · rename_i hV
      injection h with h1 h2 h3
      subst h1 h2
      exact ⟨_, hV⟩
    · cases h
  · cases h
theorem parR_len (s : List UInt8) : (parR s).x.length ≤ 1000 ∧ (parR s).m.length ≤ 1000 := by
  cases h : parR s with
  | err e => exact ⟨Nat.zero_le _, Nat.zero_le _⟩
  | ok xs ms l =>
    obtain ⟨z, hV⟩ := parR_pvs h
    have h1 := hV.1.n64
    have h2 := hV.1.four
    exact ⟨by simp only [DR.x]; omega, by simp only [DR.m]; omega⟩
theorem call7 (h0 : Heap) (s : List UInt8) : ∃ v h', Cal FT HKt 7 [.sc (tb s)] h0 v h' ∧ v = .sc (.bool true) := by
  refine Cal.of (F := a7) rfl rfl rfl ?_
  have hlen := parR_len s
  have k1 := fun H => parse_c H s
  have k2 := fun H => call23 H s
  generalize parR s = r at *
  have k3 := fun H s m s' m' (i1 : IsInts H s r.x) (i2 : IsInts H m r.m) (i3 : IsInts H s' r.x) (i4 : IsInts H m' r.m) => call19 H s m s' m' r.l r.x r.m i1 i2 i3 i4 hlen.1 hlen.2
  repeat' (first | refine w_seq ?_ | refine w_seqN ?_ | refine w_seqX ?_ | refine w_seqR ?_ | refine w_blk ?_ | refine w_blkN ?_ | refine w_blkX ?_ | refine w_blkR ?_ | refine w_skip ?_ | refine w_ret ?_ | refine w_exit ?_ | refine w_ops ?_ | refine w_opsD ?_ | refine d_one ?_ | refine d_nil ?_ | (refine w_blkY ?_ ?_; rfl) | ((refine i_cond ?_); first | refine w_condT rfl ?_ | refine w_condF rfl ?_) | ((refine i_nil ?_); first | refine d_same ?_ | refine d_ord ?_ | refine d_ext ⟨_, rfl⟩ ?_ | refine d_ext (extA _ _ _) ?_ | refine d_ext (by assumption) ?_ | refine w_end0 ?_ | refine w_end1 rfl ?_ | refine w_end2 rfl rfl ?_ | refine w_end3 rfl rfl rfl ?_ | refine w_end4 rfl rfl rfl rfl ?_ | refine w_end5 rfl rfl rfl rfl rfl ?_ | refine w_end6 rfl rfl rfl rfl rfl rfl ?_ | refine w_end7 rfl rfl rfl rfl rfl rfl rfl ?_ | refine w_end8 rfl rfl rfl rfl rfl rfl rfl rfl ?_ | refine w_end9 rfl rfl rfl rfl rfl rfl rfl rfl rfl ?_ | refine w_end10 rfl rfl rfl rfl rfl rfl rfl rfl rfl rfl ?_ | refine w_end11 rfl rfl rfl rfl rfl rfl rfl rfl rfl rfl rfl ?_ | refine w_end12 rfl rfl rfl rfl rfl rfl rfl rfl rfl rfl rfl rfl ?_ | refine w_end13 rfl rfl rfl rfl rfl rfl rfl rfl rfl rfl rfl rfl rfl ?_ | refine w_end14 rfl rfl rfl rfl rfl rfl rfl rfl rfl rfl rfl rfl rfl rfl ?_ | refine w_end15 rfl rfl rfl rfl rfl rfl rfl rfl rfl rfl rfl rfl rfl rfl rfl ?_ | refine w_end16 rfl rfl rfl rfl rfl rfl rfl rfl rfl rfl rfl rfl rfl rfl rfl rfl ?_) | ((refine i_cons ?_); first | (refine k_call rfl (awake_callT _) ?_; rintro v h1 ⟨rfl, rfl⟩) | refine k_slen rfl ?_ | (refine k_call rfl (k1 _) ?_; rintro v h2 hd; have e2 := hd.ext; obtain ⟨s1, m1, rfl, i1, i2⟩ := hd.un) | (have b3' := b3; refine k_newst3 rfl ?_; intro h5 e5 b5; have b35 := b3.ext (e4.trans e5)) | (refine k_newst3 rfl ?_; intro h3 e3 b3) | (refine k_call rfl (k2 h3) ?_; rintro v h4 hd4; have e4 := hd4.ext; obtain ⟨s2, m2, rfl, i3, i4⟩ := hd4.un) | refine k_ldA rfl b35 rfl ?_ | refine k_ldA rfl b5 rfl ?_ | (refine k_call rfl (k3 h5 s1 m1 s2 m2 (IsSl.ext i1 (e3.trans (e4.trans e5))) (IsSl.ext i2 (e3.trans (e4.trans e5))) (IsSl.ext i3 e5) (IsSl.ext i4 e5)) ?_; rintro v h6 rfl) | refine k_skip rfl ?_ | refine k_skipU rfl ?_ | refine k_want rfl ?_ | refine k_mv rfl ?_ | refine k_pickT rfl rfl ?_ | refine k_pickF rfl rfl ?_ | refine k_notT rfl ?_ | refine k_notF rfl ?_ | refine k_add rfl rfl (by omega) ?_ | refine k_sub rfl rfl (by omega) ?_ | refine k_mul rfl rfl (by omega) ?_ | refine k_neg rfl (by omega) ?_ | refine k_quo rfl rfl (by omega) ?_ | refine k_rem rfl rfl (by omega) ?_ | refine k_conv rfl (by omega) ?_ | refine k_max rfl rfl ?_ | refine k_min rfl rfl ?_ | refine k_lssT rfl rfl (by omega) ?_ | refine k_lssF rfl rfl (by omega) ?_ | refine k_lss rfl rfl (fun hc => ?_) (fun hc => ?_) | refine k_leqT rfl rfl (by omega) ?_ | refine k_leqF rfl rfl (by omega) ?_ | refine k_leq rfl rfl (fun hc => ?_) (fun hc => ?_) | refine k_gtrT rfl rfl (by omega) ?_ | refine k_gtrF rfl rfl (by omega) ?_ | refine k_gtr rfl rfl (fun hc => ?_) (fun hc => ?_) | refine k_geqT rfl rfl (by omega) ?_ | refine k_geqF rfl rfl (by omega) ?_ | refine k_geq rfl rfl (fun hc => ?_) (fun hc => ?_) | refine k_eqlT rfl rfl (by omega) ?_ | refine k_eqlF rfl rfl (by omega) ?_ | refine k_eql rfl rfl (fun hc => ?_) (fun hc => ?_) | refine k_neqT rfl rfl (by omega) ?_ | refine k_neqF rfl rfl (by omega) ?_ | refine k_neq rfl rfl (fun hc => ?_) (fun hc => ?_) | refine k_len rfl rfl ?_ | refine k_ok rfl rfl ?_))
  all_goals exact ⟨.inr rfl, rfl⟩
theorem call7b (h0 : Heap) (s : ByteArray) : ∃ v h', Cal FT HKt 7 [.sc (.str s)] h0 v h' ∧ v = .sc (.bool true) := by
  have e : (tb s.data.toList : SV) = .str s := rfl
  rw [← e]
  exact call7 h0 _
end Go.Proofs.YtehnalbdfnmphaaDoor


namespace Go.Proofs.YtehnalbdfnmphaaDoor.planarParses
open Go.ChangeShapes Go.WideShapes Go.ChangeAt Go.RowKit
open Go.ChangeMaps (open_string shut_string)
set_option linter.unusedVariables false

theorem own : ownKnob Tryd.prog.godebug = none := by kernel_rfl
theorem laidOut : laidOutB Tryd.prog = true := by kernel_rfl

theorem walk (s0 : ByteArray) (w : World)  (hF : Facts w) :
    Calls Tryd.prog 7 #[.string s0] w fun e w' => e = .returned (.bool true) ∧ Below w.heap.size w w' := by
  letI : Go.Ab.Base := ⟨w.heap.size, w⟩
  obtain ⟨v, h', ⟨N, hN⟩, rfl⟩ := call7b [] s0
  refine Go.Ab.top_below ft_ok (HKt_ok w hF) (Ls := []) (h := []) rfl ⟨Nat.le_refl _, fun _ _ => rfl⟩ (fun id L' b' h1 h2 => ?_) (.cons (.sc (.str _)) .nil) (hN N (Nat.le_refl _))
  simp at h1


/-- What the listed variables hold. -/
def laidL : List (String × DataW Unit) := [("math/bits.deBruijn32tab", Rows.laid_math_bits_deBruijn32tab), ("math/bits.deBruijn64tab", Rows.laid_math_bits_deBruijn64tab), ("internal/strconv.uint64pow10", Rows.laid_internal_strconv_uint64pow10)]
/-- A world that meets the condition. -/
theorem door_met (os : Os) (args : Array Value) : laidMetH Tryd.prog laidL ((World.laidAll Tryd.prog os laidL).forCall (fun _ _ => 0) ⟨#[], args, []⟩).memory := by
  rw [MakeChecks.laidMetH_plain _ _ _ (by kernel_rfl)]; exact laidMet_laidAll _ (by kernel_rfl) (by kernel_rfl)
/-- What the package variables hold. -/
theorem facts {W : World} (hsh : W.ShapedOpen Tryd.prog) (hL : laidMetH Tryd.prog laidL W) : Facts W := by
  rw [MakeChecks.laidMetH_plain _ _ _ (by kernel_rfl)] at hL
  have hl : laidMet Tryd.prog [("math/bits.deBruijn32tab", Rows.laid_math_bits_deBruijn32tab), ("math/bits.deBruijn64tab", Rows.laid_math_bits_deBruijn64tab), ("internal/strconv.uint64pow10", Rows.laid_internal_strconv_uint64pow10)] W := hL
  refine ⟨?_, ?_⟩
  · have e : Rows.laid_internal_strconv_uint64pow10 = (Lib.tabData .u64 Lib.pow10Tab : DataW Unit) := by kernel_rfl
    have h3 := hl.tail.tail
    rw [e] at h3
    exact Lib.tabIs_of_head (g := 3) (by kernel_rfl) (by kernel_rfl) Tryd.underlying134 Tryd.underlying120 (by kernel_rfl) (by kernel_rfl) h3
  · exact Go.Proofs.cell_of_shapedOpen_int (g := 2) (zero := #[.int .i64 0]) hsh (of_decide_eq_true (by kernel_rfl)) (by kernel_rfl) rfl (by kernel_rfl) (by kernel_rfl) Tryd.underlying3
set_option maxRecDepth 100000 in
theorem lifted (os : Os) (started : os.Started) (H : Type) (enc : TypeId × Value → H) :
    ReturnsInHanded {} Tryd.checked os 7 .any (fun w args => (Rows.planarParsesSpec.pre enc Tryd.prog Tryd.f7 [] false w args ∧ laidMetH Tryd.prog laidL w) ∧ sizedMet enc Tryd.prog Tryd.f7 (OpenSpec.ofChange Rows.planarParsesSpec) false w args)
      (Rows.planarParsesSpec.post enc Tryd.prog Tryd.f7 false true false false) := by
  refine returnsInHanded_of_calls (C := Tryd.checked) own started (by kernel_rfl)
    (ChangeSpec.witness_shaped (enc := enc) (C := Tryd.checked) (os := os) (X := fun w _ => laidMetH Tryd.prog laidL w) false (World.laidAll Tryd.prog os laidL) #[.string .empty] 8 (World.laidAll_os _ _ _) (World.shaped_of_ZipB (by kernel_rfl) (by kernel_rfl)) (by kernel_rfl) (by kernel_rfl) (by kernel_rfl) (door_met os _)) ?_
  intro w0 tape i0 _ hsh _ hok hpre _
  obtain ⟨_, _, _, fn', hfn', _, _, _, _, hval0⟩ := hok
  obtain rfl : fn' = Tryd.f7 := Option.some.inj (hfn'.symm.trans Tryd.func7)
  obtain ⟨⟨⟨ds, gs, before, hw0, hc⟩, hx⟩, hz⟩ := hpre
  have hW := DataW.Whole.of_heap (w' := w0.forCall tape i0) (by rfl) hw0
  have hP := facts hsh (laidMetH.of_heap (w' := w0.forCall tape i0) (by rfl) hx)
  generalize w0.heap.size = base at hval0
  clear hw0 hx hz hc hsh
  generalize w0.forCall tape i0 = W at *
  generalize i0.args = args at *
  have hval : ∀ (j : Nat) t v, Tryd.f7.params[j]? = some t → args[j]? = some v → Value.okWide Tryd.prog W .any base t v := hval0
  have hW' := hW
  obtain ⟨p, q, hA0, hV, rfl, hfz, hnd⟩ := hW
  have hA : DataW.TrodAll enc Tryd.prog W 0 (fun _ => true) true Tryd.f7.params.toList args.toList ds p := hA0
  rw [Tryd.params7] at hA hval
  obtain ⟨v0, vs0, d0, ds0, p0, q0, hargs, rfl, rfl, h0, r0⟩ := trodAll_cons hA
  obtain ⟨rfl, rfl, rfl⟩ := trodAll_nil r0
  obtain rfl : args = #[v0] := by cases args; simp_all
  obtain ⟨rfl, rfl⟩ := trodVars_none hV
  obtain ⟨s0, rfl, rfl, rfl, w0⟩ := open_string Tryd.underlying9 (hval 0 9 v0 rfl rfl) h0
  clear hA0 hval0
  refine (walk s0 W  hP).mono fun e W' ⟨he, bel⟩ => ?_
  subst he
  refine ChangeSpec.post_blind ?_
  exact ⟨_, _, _, [], _, [], hW', trodAll_mk1 (shut_bool Tryd.underlying4 _), (trodAll_cons_mk (shut_string Tryd.underlying9 w0) trodAll_mk0), rfl, bel.frame _, fun h => by cases h⟩

theorem over : Rows.planarParsesRow.holds Tryd.pinned (OpenSpec.ofChange Rows.planarParsesSpec) :=
  OpenClaim.holds_of_wide 7 Tryd.f7 rfl rfl rfl rfl rfl rfl rfl ⟨rfl, rfl, rfl, rfl, rfl⟩ rfl rfl rfl rfl rfl (by kernel_rfl) Tryd.func7 (by kernel_rfl)
    (of_decide_eq_true (by kernel_rfl)) (by unfold Func.isWrapper; first | (rw [if_pos (by decide +kernel)]; kernel_rfl) | (rw [if_neg (by decide +kernel)]; exact ⟨rfl, rfl⟩))
    (fun os started H enc _ => lifted os started H enc)

theorem planarParses_proved : Rows.PlanarParsesCardSaid :=
  Claim7.holds_tied_plain_at .later [] [.data, .data, .data] true (true, "54ba058fda7ae53489951bf504932d3e830c6b357e338585886245a132240668") true
    over (fun _ h => by cases h) (by kernel_rfl) (fun _ h => by cases h) planarParses_row_tie rfl ⟨rfl, rfl⟩ (by kernel_rfl) rfl
    (fun f fn hf hfn => by
      obtain rfl : f = 7 := Option.some.inj ((show Tryd.prog.funcNamed "unravel/unravellaw03.PlanarParses" = some 7 by kernel_rfl).symm.trans hf) |>.symm
      obtain rfl : fn = Tryd.f7 := (Option.some.inj (Tryd.func7.symm.trans hfn)).symm
      exact ⟨by kernel_rfl, fun j t ht => by
        rw [Tryd.params7] at ht
        have hm : t ∈ [9] := by simpa using Array.mem_of_getElem? ht
        have hall : ([9].all fun u => !Tryd.prog.wantsStandIn u) = true := by kernel_rfl
        exact (show Tryd.prog.wantsStandIn t = false by simpa using List.all_eq_true.1 hall t hm)⟩)
    (by kernel_rfl)
#print axioms planarParses_proved
end Go.Proofs.YtehnalbdfnmphaaDoor.planarParses

