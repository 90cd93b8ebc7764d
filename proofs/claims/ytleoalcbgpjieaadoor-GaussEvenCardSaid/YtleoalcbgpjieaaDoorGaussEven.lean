/- Proved is the given statement Rows.GaussEvenCardSaid: at every input the law GaussEven returns true. Its conditions: none beyond the statement's own. -/
import Derived.Test.YtleoalcbgpjieaaDoorRows
import Derived.Test.YtleoalcbgpjieaaDoorCards
import Derived.Test.YtleoalcbgpjieaaDoorTie
import Derived.Test.YtleoalcbgpjieaaDoorEW3
import Derived.MakeChecks
import Derived.Lay
import Derived.Shelf.Vars
import Derived.Lib.LaidU8
import Derived.Lib.SmallJoins
import Derived.WalkKit
import Derived.ProofKit
import Derived.OpenShut
import Derived.ShutString
import Derived.ChangeOld
import Derived.Below
import Derived.LaidMore
import Derived.Stop.Joined
import Derived.SevenTiedAt
namespace Go.Proofs.YtleoalcbgpjieaaDoor.gaussEven
open Go.ChangeShapes Go.WideShapes Go.ChangeAt Go.RowKit
open Go.ChangeMaps (open_string shut_string)
set_option linter.unusedVariables false

theorem own : ownKnob Tryd.prog.godebug = none := by kernel_rfl
theorem laidOut : laidOutB Tryd.prog = true := by kernel_rfl

theorem walk (a0a : Option Addr) (len0a cap0a : Nat) (z0a : List Int) (a0b : Option Addr) (len0b cap0b : Nat) (z0b : List Int) (n0c : Int) (w : World) (w0a : Go.Ab.RowI .i64 w a0a len0a cap0a z0a) (w0b : Go.Ab.RowI .i64 w a0b len0b cap0b z0b) (w0c : (Lit.int .i64 n0c).wf = true) (hF : Facts w) :
    Calls Tryd.prog 5 #[.agg #[.slice a0a len0a cap0a, .slice a0b len0b cap0b, .int .i64 n0c]] w fun e w' => e = .returned (.bool true) ∧ Below w.heap.size w w' := by
  letI : Go.Ab.Base := ⟨w.heap.size, w⟩
  obtain ⟨s0a, b0a, L0a, hB0a, hs0a, hi0a, hlen0a⟩ := Go.Ab.arg_ints w0a 0
  obtain ⟨s0b, b0b, L0b, hB0b, hs0b, hi0b, hlen0b⟩ := Go.Ab.arg_ints w0b 1
  refine Go.Ab.top_rw ft_ok (F := a5) rfl (Ls := [L0a, L0b]) (h := [b0a, b0b]) rfl rfl ⟨Nat.le_refl _, fun _ _ => rfl⟩ (fun id L' b' h1 h2 => ?_) (.cons (.agg (.cons (hs0a _ rfl) (.cons (hs0b _ rfl) (.cons (.int _ _) .nil)))) .nil) (fun n => rw5 (HKt_ok w hF) [b0a, b0b] s0a (z0a.take len0a) (hi0a [b0a, b0b] rfl) s0b (z0b.take len0b) (hi0b [b0a, b0b] rfl) n0c (Go.Ab.lit_i64 w0c) n)
  match id, h1, h2 with
  | 0, h1, h2 => simp at h1 h2; subst h1 h2; exact hB0a
  | 1, h1, h2 => simp at h1 h2; subst h1 h2; exact hB0b
  | _ + 2, h1, h2 => simp at h1


/-- What the listed variables hold. -/
def laidL : List (String × DataW Unit) := [("math/bits.deBruijn32tab", Rows.laid_math_bits_deBruijn32tab), ("math/bits.deBruijn64tab", Rows.laid_math_bits_deBruijn64tab), ("internal/strconv.uint64pow10", Rows.laid_internal_strconv_uint64pow10), ("strconv.ErrRange", Rows.laid_strconv_ErrRange), ("strconv.ErrSyntax", Rows.laid_strconv_ErrSyntax), ("unicode.White_Space", Rows.laid_unicode_White_Space), ("strings.asciiSpace", Rows.laid_strings_asciiSpace)]
/-- A world that meets the condition. -/
theorem door_met (os : Os) (args : Array Value) : laidMetH Tryd.prog laidL ((World.laidAll Tryd.prog os laidL).forCall (fun _ _ => 0) ⟨#[], args, []⟩).memory := by
  rw [MakeChecks.laidMetH_plain _ _ _ (by kernel_rfl)]; exact laidMet_laidAll _ (by kernel_rfl) (by kernel_rfl)
/-- What the package variables hold. -/
theorem facts {W : World} (hsh : W.ShapedOpen Tryd.prog) (hL : laidMetH Tryd.prog laidL W) : Facts W := by
  rw [MakeChecks.laidMetH_plain _ _ _ (by kernel_rfl)] at hL
  have hl : laidMet Tryd.prog [("math/bits.deBruijn32tab", Rows.laid_math_bits_deBruijn32tab), ("math/bits.deBruijn64tab", Rows.laid_math_bits_deBruijn64tab), ("internal/strconv.uint64pow10", Rows.laid_internal_strconv_uint64pow10), ("strconv.ErrRange", Rows.laid_strconv_ErrRange), ("strconv.ErrSyntax", Rows.laid_strconv_ErrSyntax), ("unicode.White_Space", Rows.laid_unicode_White_Space), ("strings.asciiSpace", Rows.laid_strings_asciiSpace)] W := hL
  refine ⟨?_, ?_, ?_, ?_, ?_⟩
  · exact Go.Ab.ifc_of_laid (g := 4) hl.tail.tail.tail.tail (by kernel_rfl) (by kernel_rfl) Tryd.underlying82
  · exact Go.Ab.ifc_of_laid (g := 5) hl.tail.tail.tail (by kernel_rfl) (by kernel_rfl) Tryd.underlying82
  · have e : Rows.laid_internal_strconv_uint64pow10 = (Lib.tabData .u64 Lib.pow10Tab : DataW Unit) := by kernel_rfl
    have h3 := hl.tail.tail
    rw [e] at h3
    exact Lib.tabIs_of_head (g := 2) (by kernel_rfl) (by kernel_rfl) Tryd.underlying142 Tryd.underlying118 (by kernel_rfl) (by kernel_rfl) h3
  · have e : Rows.laid_strings_asciiSpace = (Lib.tabData .u8 Lib.asciiSpaceTab : DataW Unit) := by kernel_rfl
    have h3 := hl.tail.tail.tail.tail.tail.tail
    rw [e] at h3
    exact Lib.tabIs_of_head (g := 0) (by kernel_rfl) (by kernel_rfl) Tryd.underlying103 Tryd.underlying5 (by kernel_rfl) (by kernel_rfl) h3
  · have e : Rows.laid_unicode_White_Space = (Lib.whiteData : DataW Unit) := by kernel_rfl
    have h3 := Lib.laidMet.reads hl (n := "unicode.White_Space") (.tail _ (.tail _ (.tail _ (.tail _ (.tail _ (.head _))))))
    rw [e] at h3
    exact whiteTab_of_reads (ρ := lays157_ren) { lays157 with } ⟨by kernel_rfl, by kernel_rfl, by kernel_rfl, by kernel_rfl, by kernel_rfl, by kernel_rfl, by kernel_rfl, by kernel_rfl⟩ h3
set_option maxRecDepth 100000 in
theorem lifted (os : Os) (started : os.Started) (H : Type) (enc : TypeId × Value → H) :
    ReturnsInHanded {} Tryd.checked os 5 .any (fun w args => (Rows.gaussEvenSpec.pre enc Tryd.prog Tryd.f5 [] false w args ∧ laidMetH Tryd.prog laidL w) ∧ sizedMet enc Tryd.prog Tryd.f5 (OpenSpec.ofChange Rows.gaussEvenSpec) false w args)
      (Rows.gaussEvenSpec.post enc Tryd.prog Tryd.f5 false true false false) := by
  refine returnsInHanded_of_calls (C := Tryd.checked) own started (by kernel_rfl)
    (ChangeSpec.witness_shaped (enc := enc) (C := Tryd.checked) (os := os) (X := fun w _ => laidMetH Tryd.prog laidL w) false (World.laidAll Tryd.prog os laidL) #[.agg #[.slice none 0 0, .slice none 0 0, .int .i64 0]] 8 (World.laidAll_os _ _ _) (World.shaped_of_ZipB (by kernel_rfl) (by kernel_rfl)) (by kernel_rfl) (by kernel_rfl) (by kernel_rfl) (door_met os _)) ?_
  intro w0 tape i0 _ hsh _ hok hpre _
  obtain ⟨_, _, _, fn', hfn', _, _, _, _, hval0⟩ := hok
  obtain rfl : fn' = Tryd.f5 := Option.some.inj (hfn'.symm.trans Tryd.func5)
  obtain ⟨⟨⟨ds, gs, before, hw0, hc⟩, hx⟩, hz⟩ := hpre
  have hW := DataW.Whole.of_heap (w' := w0.forCall tape i0) (by rfl) hw0
  have hP := facts hsh (laidMetH.of_heap (w' := w0.forCall tape i0) (by rfl) hx)
  generalize w0.heap.size = base at hval0
  clear hw0 hx hz hc hsh
  generalize w0.forCall tape i0 = W at *
  generalize i0.args = args at *
  have hval : ∀ (j : Nat) t v, Tryd.f5.params[j]? = some t → args[j]? = some v → Value.okWide Tryd.prog W .any base t v := hval0
  have hW' := hW
  obtain ⟨p, q, hA0, hV, rfl, hfz, hnd⟩ := hW
  have hA : DataW.TrodAll enc Tryd.prog W 0 (fun _ => true) true Tryd.f5.params.toList args.toList ds p := hA0
  rw [Tryd.params5] at hA hval
  obtain ⟨v0, vs0, d0, ds0, p0, q0, hargs, rfl, rfl, h0, r0⟩ := trodAll_cons hA
  obtain ⟨rfl, rfl, rfl⟩ := trodAll_nil r0
  obtain rfl : args = #[v0] := by cases args; simp_all
  obtain ⟨rfl, rfl⟩ := trodVars_none hV
  have k0 := h0
  have lt0 : ∀ x ∈ p0, x.block < W.heap.size := by obtain ⟨m, hm⟩ := k0; exact DataW.trod_lt m _ _ _ hm
  obtain ⟨u0a, u0b, u0c, y0a, y0b, y0c, m0, rfl, rfl, rfl, h0a, h0b, h0c⟩ := Go.Joins.open_agg3 Tryd.underlying24 (by kernel_rfl) (by kernel_rfl) (hval 0 24 v0 rfl rfl) h0
  obtain ⟨a0a, len0a, cap0a, z0a, rfl, w0a⟩ : ∃ a l c zs, u0a = .slice a l c ∧ Go.Ab.RowI .i64 W a l c zs := by
    rcases open_ints Tryd.underlying22 Tryd.underlying3 (by kernel_rfl) h0a with ⟨hcs, _⟩ | ⟨x, l, c, zs, hcs, _, hl, hm, hz, _, hcell, hwz⟩
    · exact ⟨none, 0, 0, [], by simpa using hcs, .inl ⟨rfl, rfl, rfl, rfl⟩⟩
    · exact ⟨some x, l, c, zs, by simpa using hcs, .inr ⟨_, rfl, hl, hm, by simpa using hz, hcell, hwz⟩⟩
  obtain ⟨a0b, len0b, cap0b, z0b, rfl, w0b⟩ : ∃ a l c zs, u0b = .slice a l c ∧ Go.Ab.RowI .i64 W a l c zs := by
    rcases open_ints Tryd.underlying22 Tryd.underlying3 (by kernel_rfl) h0b with ⟨hcs, _⟩ | ⟨x, l, c, zs, hcs, _, hl, hm, hz, _, hcell, hwz⟩
    · exact ⟨none, 0, 0, [], by simpa using hcs, .inl ⟨rfl, rfl, rfl, rfl⟩⟩
    · exact ⟨some x, l, c, zs, by simpa using hcs, .inr ⟨_, rfl, hl, hm, by simpa using hz, hcell, hwz⟩⟩
  obtain ⟨n0c, e0c, rfl, w0c⟩ := DataW.trod_int Tryd.underlying3 h0c
  simp at e0c
  subst e0c
  clear hA0 hval0
  refine (walk a0a len0a cap0a z0a a0b len0b cap0b z0b n0c W w0a w0b w0c hP).mono fun e W' ⟨he, bel⟩ => ?_
  subst he
  refine ChangeSpec.post_blind ?_
  exact ⟨_, _, _, [], _, [], hW', trodAll_mk1 (shut_bool Tryd.underlying4 _), (trodAll_cons_mk (Below.trod laidOut (by kernel_rfl) (of_decide_eq_true (by kernel_rfl)) k0 bel lt0) trodAll_mk0), rfl, bel.frame _, fun h => by cases h⟩

theorem over : Rows.gaussEvenRow.holds Tryd.pinned (OpenSpec.ofChange Rows.gaussEvenSpec) :=
  OpenClaim.holds_of_wide 5 Tryd.f5 rfl rfl rfl rfl rfl rfl rfl ⟨rfl, rfl, rfl, rfl, rfl⟩ rfl rfl rfl rfl rfl (by kernel_rfl) Tryd.func5 (by kernel_rfl)
    (of_decide_eq_true (by kernel_rfl)) (by unfold Func.isWrapper; first | (rw [if_pos (by decide +kernel)]; kernel_rfl) | (rw [if_neg (by decide +kernel)]; exact ⟨rfl, rfl⟩))
    (fun os started H enc _ => lifted os started H enc)

theorem gaussEven_proved : Rows.GaussEvenCardSaid :=
  Claim7.holds_tied_plain_at .later [] [.data, .data, .data, .sentinel, .sentinel, .listed, .data] true (true, "8ded6d569e1281e0b432471e96f86a6db5a4f11fa42ba9e786882e8210787dc3") true
    over (fun _ h => by cases h) (by kernel_rfl) (fun _ h => by cases h) gaussEven_row_tie rfl ⟨rfl, rfl⟩ (by kernel_rfl) rfl
    (fun f fn hf hfn => by
      obtain rfl : f = 5 := Option.some.inj ((show Tryd.prog.funcNamed "unravel/unravellaw02.GaussEven" = some 5 by kernel_rfl).symm.trans hf) |>.symm
      obtain rfl : fn = Tryd.f5 := (Option.some.inj (Tryd.func5.symm.trans hfn)).symm
      exact ⟨by kernel_rfl, fun j t ht => by
        rw [Tryd.params5] at ht
        have hm : t ∈ [24] := by simpa using Array.mem_of_getElem? ht
        have hall : ([24].all fun u => !Tryd.prog.wantsStandIn u) = true := by kernel_rfl
        exact (show Tryd.prog.wantsStandIn t = false by simpa using List.all_eq_true.1 hall t hm)⟩)
    (by kernel_rfl)
#print axioms gaussEven_proved
end Go.Proofs.YtleoalcbgpjieaaDoor.gaussEven
