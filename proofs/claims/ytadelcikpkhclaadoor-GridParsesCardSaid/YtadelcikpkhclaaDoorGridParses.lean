/- Proved is the given statement Rows.GridParsesCardSaid: at every input the law GridParses returns true. Its conditions: none beyond the statement's own. -/
import Derived.Test.YtadelcikpkhclaaDoorRows
import Derived.Test.YtadelcikpkhclaaDoorCards
import Derived.Test.YtadelcikpkhclaaDoorTie
import Derived.Test.YtadelcikpkhclaaDoorT7
import Derived.MakeChecks
import Derived.Lay
import Derived.WalkKit
import Derived.ProofKit
import Derived.OpenShut
import Derived.ShutString
import Derived.ChangeOld
import Derived.Below
import Derived.LaidMore
import Derived.Stop.Joined
import Derived.SevenTiedAt
namespace Go.Proofs.YtadelcikpkhclaaDoor.gridParses
open Go.ChangeShapes Go.WideShapes Go.ChangeAt Go.RowKit
open Go.ChangeMaps (open_string shut_string)
set_option linter.unusedVariables false

theorem own : ownKnob Tryd.prog.godebug = none := by kernel_rfl
theorem laidOut : laidOutB Tryd.prog = true := by kernel_rfl

theorem walk (s0 : ByteArray) (w : World)  (hP : Go.Ab.PinsAt w 0 1 2 3) :
    Calls Tryd.prog 10 #[.string s0] w fun e w' => e = .returned (.bool true) ∧ Below w.heap.size w w' := by
  obtain ⟨m, q0, q1, q2, q3, r0, r1, r2, r3⟩ := hP
  obtain ⟨v, h', ⟨N, hN⟩, rfl⟩ := parses ([.cells [.int .i64 m] false (Go.Ab.pinZ 0 1), .cells [.ifc] false (Go.Ab.pinZ 1 1), .cells [.ifc] false (Go.Ab.pinZ 2 1), .cells (Lib.pow10Tab.map (.int .u64)) false (Go.Ab.pinZ 3 20)] : Go.Ab.Heap) (IsPins.mk4 m _) s0
  refine Go.Ab.top_below ft_ok HKt_ok (Ls := [q0, q1, q2, q3]) (h := ([.cells [.int .i64 m] false (Go.Ab.pinZ 0 1), .cells [.ifc] false (Go.Ab.pinZ 1 1), .cells [.ifc] false (Go.Ab.pinZ 2 1), .cells (Lib.pow10Tab.map (.int .u64)) false (Go.Ab.pinZ 3 20)] : Go.Ab.Heap)) rfl (Nat.le_of_ble_eq_true rfl) (fun id L' b' h1 h2 => ?_) (.cons (.sc (.str _)) .nil) (hN N (Nat.le_refl _))
  match id, h1, h2 with
  | 0, h1, h2 => obtain rfl := Option.some.inj h1; obtain rfl := Option.some.inj h2; exact r0
  | 1, h1, h2 => obtain rfl := Option.some.inj h1; obtain rfl := Option.some.inj h2; exact r1
  | 2, h1, h2 => obtain rfl := Option.some.inj h1; obtain rfl := Option.some.inj h2; exact r2
  | 3, h1, h2 => obtain rfl := Option.some.inj h1; obtain rfl := Option.some.inj h2; exact r3
  | _ + 4, h1, h2 => simp at h1

/-- What the listed variables hold. -/
def laidL : List (String × DataW Unit) := [("math/bits.deBruijn32tab", Rows.laid_math_bits_deBruijn32tab), ("math/bits.deBruijn64tab", Rows.laid_math_bits_deBruijn64tab), ("internal/strconv.uint64pow10", Rows.laid_internal_strconv_uint64pow10), ("unicode/utf8.acceptRanges", Rows.laid_unicode_utf8_acceptRanges), ("strconv.ErrRange", Rows.laid_strconv_ErrRange), ("strconv.ErrSyntax", Rows.laid_strconv_ErrSyntax), ("unicode/utf8.first", Rows.laid_unicode_utf8_first)]
/-- A world that meets the condition. -/
theorem door_met (os : Os) (args : Array Value) : laidMetH Tryd.prog laidL ((World.laidAll Tryd.prog os laidL).forCall (fun _ _ => 0) ⟨#[], args, []⟩).memory := by
  rw [MakeChecks.laidMetH_plain _ _ _ (by kernel_rfl)]; exact laidMet_laidAll _ (by kernel_rfl) (by kernel_rfl)
/-- The four variables of the library. -/
theorem pins {W : World} (hsh : W.ShapedOpen Tryd.prog) (hL : laidMetH Tryd.prog laidL W) : Go.Ab.PinsAt W 0 1 2 3 := by
  rw [MakeChecks.laidMetH_plain _ _ _ (by kernel_rfl)] at hL
  have hl : laidMet Tryd.prog [("math/bits.deBruijn32tab", Rows.laid_math_bits_deBruijn32tab), ("math/bits.deBruijn64tab", Rows.laid_math_bits_deBruijn64tab), ("internal/strconv.uint64pow10", Rows.laid_internal_strconv_uint64pow10), ("unicode/utf8.acceptRanges", Rows.laid_unicode_utf8_acceptRanges), ("strconv.ErrRange", Rows.laid_strconv_ErrRange), ("strconv.ErrSyntax", Rows.laid_strconv_ErrSyntax), ("unicode/utf8.first", Rows.laid_unicode_utf8_first)] W := hL
  refine Go.Ab.PinsAt.of (P := Tryd.prog) (nb := "strconv.ErrSyntax") (nc := "strconv.ErrRange") (nd := "internal/strconv.uint64pow10") (by decide) ?_ ?_ (by kernel_rfl) (by kernel_rfl) (by kernel_rfl) ?_ ?_ ?_
  · obtain ⟨cs, h1, h2, _⟩ := hsh.1 0 #[.int .i64 0] 3 (of_decide_eq_true (by kernel_rfl)) (by kernel_rfl)
    exact ⟨cs, _, h1, h2⟩
  · exact Go.Proofs.cell_of_shapedOpen_int (zero := #[.int .i64 0]) hsh (of_decide_eq_true (by kernel_rfl)) (by kernel_rfl) rfl (by kernel_rfl) (by kernel_rfl) Tryd.underlying3
  · exact Go.Ab.ifc_of_laid (g := 1) hl.tail.tail.tail.tail.tail (by kernel_rfl) (by kernel_rfl) Tryd.underlying70
  · exact Go.Ab.ifc_of_laid (g := 2) hl.tail.tail.tail.tail (by kernel_rfl) (by kernel_rfl) Tryd.underlying70
  · have e : Rows.laid_internal_strconv_uint64pow10 = (Lib.tabData .u64 Lib.pow10Tab : DataW Unit) := by kernel_rfl
    have h3 := hl.tail.tail
    rw [e] at h3
    exact Lib.tabIs_of_head (g := 3) (by kernel_rfl) (by kernel_rfl) Tryd.underlying114 Tryd.underlying96 (by kernel_rfl) (by kernel_rfl) h3
set_option maxRecDepth 100000 in
theorem lifted (os : Os) (started : os.Started) (H : Type) (enc : TypeId × Value → H) :
    ReturnsInHanded {} Tryd.checked os 10 .any (fun w args => (Rows.gridParsesSpec.pre enc Tryd.prog Tryd.f10 [] false w args ∧ laidMetH Tryd.prog laidL w) ∧ sizedMet enc Tryd.prog Tryd.f10 (OpenSpec.ofChange Rows.gridParsesSpec) false w args)
      (Rows.gridParsesSpec.post enc Tryd.prog Tryd.f10 false true false false) := by
  refine returnsInHanded_of_calls (C := Tryd.checked) own started (by kernel_rfl)
    (ChangeSpec.witness_shaped (enc := enc) (C := Tryd.checked) (os := os) (X := fun w _ => laidMetH Tryd.prog laidL w) false (World.laidAll Tryd.prog os laidL) #[.string .empty] 8 (World.laidAll_os _ _ _) (World.shaped_of_ZipB (by kernel_rfl) (by kernel_rfl)) (by kernel_rfl) (by kernel_rfl) (by kernel_rfl) (door_met os _)) ?_
  intro w0 tape i0 _ hsh _ hok hpre _
  obtain ⟨_, _, _, fn', hfn', _, _, _, _, hval0⟩ := hok
  obtain rfl : fn' = Tryd.f10 := Option.some.inj (hfn'.symm.trans Tryd.func10)
  obtain ⟨⟨⟨ds, gs, before, hw0, hc⟩, hx⟩, hz⟩ := hpre
  have hW := DataW.Whole.of_heap (w' := w0.forCall tape i0) (by rfl) hw0
  have hP := pins hsh (laidMetH.of_heap (w' := w0.forCall tape i0) (by rfl) hx)
  generalize w0.heap.size = base at hval0
  clear hw0 hx hz hc hsh
  generalize w0.forCall tape i0 = W at *
  generalize i0.args = args at *
  have hval : ∀ (j : Nat) t v, Tryd.f10.params[j]? = some t → args[j]? = some v → Value.okWide Tryd.prog W .any base t v := hval0
  have hW' := hW
  obtain ⟨p, q, hA0, hV, rfl, hfz, hnd⟩ := hW
  have hA : DataW.TrodAll enc Tryd.prog W 0 (fun _ => true) true Tryd.f10.params.toList args.toList ds p := hA0
  rw [Tryd.params10] at hA hval
  obtain ⟨v0, vs0, d0, ds0, p0, q0, hargs, rfl, rfl, h0, r0⟩ := trodAll_cons hA
  obtain ⟨rfl, rfl, rfl⟩ := trodAll_nil r0
  obtain rfl : args = #[v0] := by cases args; simp_all
  obtain ⟨rfl, rfl⟩ := trodVars_none hV
  obtain ⟨s0, rfl, rfl, rfl, w0⟩ := open_string Tryd.underlying9 (hval 0 9 v0 rfl rfl) h0
  clear hA0 hval0
  refine (walk s0 W  hP).mono fun e W' ⟨he, bel⟩ => ?_
  subst he
  refine ChangeSpec.post_blind ?_
  exact ⟨_, _, _, [], _, [], hW', trodAll_mk1 (shut_bool Tryd.underlying4 _), (trodAll_cons_mk (shut_string Tryd.underlying9 w0) trodAll_mk0), rfl, bel.frame _, fun h => by cases h⟩

theorem over : Rows.gridParsesRow.holds Tryd.pinned (OpenSpec.ofChange Rows.gridParsesSpec) :=
  OpenClaim.holds_of_wide 10 Tryd.f10 rfl rfl rfl rfl rfl rfl rfl ⟨rfl, rfl, rfl, rfl, rfl⟩ rfl rfl rfl rfl rfl (by kernel_rfl) Tryd.func10 (by kernel_rfl)
    (of_decide_eq_true (by kernel_rfl)) (by unfold Func.isWrapper; first | (rw [if_pos (by decide +kernel)]; kernel_rfl) | (rw [if_neg (by decide +kernel)]; exact ⟨rfl, rfl⟩))
    (fun os started H enc _ => lifted os started H enc)

theorem gridParses_proved : Rows.GridParsesCardSaid :=
  Claim7.holds_tied_plain_at .later [] [.data, .data, .data, .data, .sentinel, .sentinel, .pinned] true (true, "a71228dcc935bcb7224a812824cb1eb1bdf1c25b860eecf8f5db6349c00a5b10") true
    over (fun _ h => by cases h) (by kernel_rfl) (fun _ h => by cases h) gridParses_row_tie rfl ⟨rfl, rfl⟩ (by kernel_rfl) rfl
    (fun f fn hf hfn => by
      obtain rfl : f = 10 := Option.some.inj ((show Tryd.prog.funcNamed "unravel/unravellaw42.GridParses" = some 10 by kernel_rfl).symm.trans hf) |>.symm
      obtain rfl : fn = Tryd.f10 := (Option.some.inj (Tryd.func10.symm.trans hfn)).symm
      exact ⟨by kernel_rfl, fun j t ht => by
        rw [Tryd.params10] at ht
        have hm : t ∈ [9] := by simpa using Array.mem_of_getElem? ht
        have hall : ([9].all fun u => !Tryd.prog.wantsStandIn u) = true := by kernel_rfl
        exact (show Tryd.prog.wantsStandIn t = false by simpa using List.all_eq_true.1 hall t hm)⟩)
    (by kernel_rfl)
#print axioms gridParses_proved
end Go.Proofs.YtadelcikpkhclaaDoor.gridParses
