/- Proved is the given statement Rows.WordSubstitutesCardSaid: at every input the law WordSubstitutes returns true. Its conditions: none beyond the statement's own. -/
import Derived.Test.YtgmfjhmphiiifaaDoorRows
import Derived.Test.YtgmfjhmphiiifaaDoorCards
import Derived.Test.YtgmfjhmphiiifaaDoorTie
import Derived.Test.YtgmfjhmphiiifaaDoorSB10
import Derived.WalkKit
import Derived.ProofKit
import Derived.OpenShut
import Derived.ShutString
import Derived.ChangeOld
import Derived.Below
import Derived.LaidMore
import Derived.Stop.Joined
import Derived.SevenTiedAt
namespace Go.Proofs.YtgmfjhmphiiifaaDoor.wordSubstitutes
open Go.ChangeShapes Go.WideShapes Go.ChangeAt Go.RowKit
open Go.ChangeMaps (open_string shut_string)
set_option linter.unusedVariables false

theorem own : ownKnob Tryd.prog.godebug = none := by kernel_rfl
theorem laidOut : laidOutB Tryd.prog = true := by kernel_rfl

theorem walk (a0 : Option Addr) (len0 cap0 : Nat) (d0 : List Int) (a1 : Option Addr) (len1 cap1 : Nat) (d1 : List Int) (a2 : Option Addr) (len2 cap2 : Nat) (d2 : List (List Int)) (w : World) (w0 : Go.Ab.CsOK w (RIs d0) [.slice a0 len0 cap0]) (w1 : Go.Ab.CsOK w (RIs d1) [.slice a1 len1 cap1]) (w2 : Go.Ab.CsOK w (RVs d2) [.slice a2 len2 cap2]) :
    Calls Tryd.prog 8 #[.slice a0 len0 cap0, .slice a1 len1 cap1, .slice a2 len2 cap2] w fun e w' => e = .returned (.bool true) ∧ Below w.heap.size w w' := by
  letI : Go.Ab.Base := ⟨w.heap.size, w⟩
  obtain ⟨Ls, H, ss, hl, hf, hb, hr⟩ := Go.Ab.CsOK.top (w0.app (w1.app w2))
  obtain ⟨l0, m0, e0, r0, hr⟩ := hr
  obtain ⟨l1, m1, e1, r1, hr⟩ := hr
  have r2 := hr
  obtain ⟨s0, es0, x0⟩ := RIs.ok r0
  subst es0
  obtain ⟨s1, es1, x1⟩ := RIs.ok r1
  subst es1
  obtain ⟨s2, es2, x2⟩ := RVs.ok r2
  subst es2
  subst e1
  subst e0
  rcases hf with _ | ⟨q0, hf⟩
  rcases hf with _ | ⟨q1, hf⟩
  rcases hf with _ | ⟨q2, hf⟩
  obtain ⟨v, h', ⟨N, hN⟩, rfl⟩ := substitutes H s0 d0 x0 s1 d1 x1 s2 d2 x2
  exact Go.Ab.top_belowR ft_ok HK2_ok (Ls := Ls) (h := H) hl ⟨Nat.le_refl _, fun _ _ => rfl⟩ hb (.cons (.sc q0) (.cons (.sc q1) (.cons (.sc q2) .nil))) (hN N (Nat.le_refl _))

/-- What the listed variables hold. -/
def laidL : List (String × DataW Unit) := [("math/bits.deBruijn32tab", Rows.laid_math_bits_deBruijn32tab), ("math/bits.deBruijn64tab", Rows.laid_math_bits_deBruijn64tab), ("internal/strconv.uint64pow10", Rows.laid_internal_strconv_uint64pow10)]
/-- The door's own heap meets the condition. -/
theorem door_met (os : Os) (args : Array Value) : laidMetH Tryd.prog laidL ((World.doorLaid Tryd.prog 34 os).forCall (fun _ _ => 0) ⟨#[], args, []⟩).memory :=
  laidMetH_of_parts3 (fuel := 8) (laidMet_of_run' 8 (by kernel_rfl) (by kernel_rfl)) (by kernel_rfl) (by kernel_rfl)
set_option maxRecDepth 100000 in
theorem lifted (os : Os) (started : os.Started) (H : Type) (enc : TypeId × Value → H) :
    ReturnsInHanded {} Tryd.checked os 8 .any (fun w args => (Rows.wordSubstitutesSpec.pre enc Tryd.prog Tryd.f8 [] false w args ∧ laidMetH Tryd.prog laidL w) ∧ sizedMet enc Tryd.prog Tryd.f8 (OpenSpec.ofChange Rows.wordSubstitutesSpec) false w args)
      (Rows.wordSubstitutesSpec.post enc Tryd.prog Tryd.f8 false true false false) := by
  refine returnsInHanded_of_change_and (C := Tryd.checked) (X := fun w _ => laidMetH Tryd.prog laidL w) (fun _ _ _ hh h => h.of_heap hh) own started (by kernel_rfl) Tryd.func8
    (ChangeSpec.witness_shaped (enc := enc) (C := Tryd.checked) (os := os) (X := fun w _ => laidMetH Tryd.prog laidL w) false (World.doorLaid Tryd.prog 34 os) #[.slice none 0 0, .slice none 0 0, .slice none 0 0] 8 rfl (World.shaped_of_RefB (by kernel_rfl) (by kernel_rfl)) (by kernel_rfl) (by kernel_rfl) (by kernel_rfl) (door_met os _)) ?_
  intro W base args ds gs before hval0 hW _ _ hL _
  have hval : ∀ (j : Nat) t v, Tryd.f8.params[j]? = some t → args[j]? = some v → Value.okWide Tryd.prog W .any base t v := hval0
  have hW' := hW
  obtain ⟨p, q, hA0, hV, rfl, hfz, hnd⟩ := hW
  have hA : DataW.TrodAll enc Tryd.prog W 0 (fun _ => true) true Tryd.f8.params.toList args.toList ds p := hA0
  rw [Tryd.params8] at hA hval
  obtain ⟨v0, vs0, d0, ds0, p0, q0, hargs, rfl, rfl, h0, r0⟩ := trodAll_cons hA
  obtain ⟨v1, vs1, d1, ds1, p1, q1, rfl, rfl, rfl, h1, r1⟩ := trodAll_cons r0
  obtain ⟨v2, vs2, d2, ds2, p2, q2, rfl, rfl, rfl, h2, r2⟩ := trodAll_cons r1
  obtain ⟨rfl, rfl, rfl⟩ := trodAll_nil r2
  obtain rfl : args = #[v0, v1, v2] := by cases args; simp_all
  obtain ⟨rfl, rfl⟩ := trodVars_none hV
  have k0 := h0
  have lt0 : ∀ x ∈ p0, x.block < W.heap.size := by obtain ⟨m, hm⟩ := k0; exact DataW.trod_lt m _ _ _ hm
  obtain ⟨a0, len0, cap0, rfl⟩ := okWide_slice Tryd.underlying22 (hval 0 22 v0 rfl rfl)
  obtain ⟨d0, w0⟩ : ∃ d, Go.Ab.CsOK W (RIs d) [.slice a0 len0 cap0] := by
    obtain ⟨fuel, hf⟩ := k0
    have := ((tok_is Tryd.underlying22 Tryd.underlying3 (by kernel_rfl)) fuel _ _ hf).2
    simpa [Value.cells] using this
  have k1 := h1
  have lt1 : ∀ x ∈ p1, x.block < W.heap.size := by obtain ⟨m, hm⟩ := k1; exact DataW.trod_lt m _ _ _ hm
  obtain ⟨a1, len1, cap1, rfl⟩ := okWide_slice Tryd.underlying22 (hval 1 22 v1 rfl rfl)
  obtain ⟨d1, w1⟩ : ∃ d, Go.Ab.CsOK W (RIs d) [.slice a1 len1 cap1] := by
    obtain ⟨fuel, hf⟩ := k1
    have := ((tok_is Tryd.underlying22 Tryd.underlying3 (by kernel_rfl)) fuel _ _ hf).2
    simpa [Value.cells] using this
  have k2 := h2
  have lt2 : ∀ x ∈ p2, x.block < W.heap.size := by obtain ⟨m, hm⟩ := k2; exact DataW.trod_lt m _ _ _ hm
  obtain ⟨a2, len2, cap2, rfl⟩ := okWide_slice Tryd.underlying36 (hval 2 36 v2 rfl rfl)
  obtain ⟨d2, w2⟩ : ∃ d, Go.Ab.CsOK W (RVs d) [.slice a2 len2 cap2] := by
    obtain ⟨fuel, hf⟩ := k2
    have := ((tok_vs Tryd.underlying36 Tryd.underlying22 Tryd.underlying3 (by kernel_rfl) (by kernel_rfl)) fuel _ _ hf).2
    simpa [Value.cells] using this
  clear hA0 hval0
  refine (walk a0 len0 cap0 d0 a1 len1 cap1 d1 a2 len2 cap2 d2 W w0 w1 w2).mono fun e W' ⟨he, bel⟩ => ?_
  subst he
  skip
  exact ⟨_, rfl, _, _, _, [], _, [], hW', trodAll_mk1 (shut_bool Tryd.underlying4 _), (trodAll_cons_mk (Below.trod laidOut (by kernel_rfl) (of_decide_eq_true (by kernel_rfl)) k0 bel lt0) (trodAll_cons_mk (Below.trod laidOut (by kernel_rfl) (of_decide_eq_true (by kernel_rfl)) k1 bel lt1) (trodAll_cons_mk (Below.trod laidOut (by kernel_rfl) (of_decide_eq_true (by kernel_rfl)) k2 bel lt2) trodAll_mk0))), rfl, bel.frame _, fun h => by cases h⟩

theorem over : Rows.wordSubstitutesRow.holds Tryd.pinned (OpenSpec.ofChange Rows.wordSubstitutesSpec) :=
  OpenClaim.holds_of_wide 8 Tryd.f8 rfl rfl rfl rfl rfl rfl rfl ⟨rfl, rfl, rfl, rfl, rfl⟩ rfl rfl rfl rfl rfl (by kernel_rfl) Tryd.func8 (by kernel_rfl)
    (of_decide_eq_true (by kernel_rfl)) (by unfold Func.isWrapper; first | (rw [if_pos (by decide +kernel)]; kernel_rfl) | (rw [if_neg (by decide +kernel)]; exact ⟨rfl, rfl⟩))
    (fun os started H enc _ => lifted os started H enc)

theorem wordSubstitutes_proved : Rows.WordSubstitutesCardSaid :=
  Claim7.holds_tied_plain_at .later [] [.data, .data, .data] true (true, "cb35266de7c707d6c0d6fbec56bf639eff33b905b9c80eb23900e620ade2631f") false
    over (fun _ h => by cases h) (by kernel_rfl) (fun _ h => by cases h) wordSubstitutes_row_tie rfl ⟨rfl, rfl⟩ (by kernel_rfl) rfl
    (fun f fn hf hfn => by
      obtain rfl : f = 8 := Option.some.inj ((show Tryd.prog.funcNamed "unravel/unravellaw21.WordSubstitutes" = some 8 by kernel_rfl).symm.trans hf) |>.symm
      obtain rfl : fn = Tryd.f8 := (Option.some.inj (Tryd.func8.symm.trans hfn)).symm
      exact ⟨by kernel_rfl, fun j t ht => by
        rw [Tryd.params8] at ht
        have hm : t ∈ [22, 22, 36] := by simpa using Array.mem_of_getElem? ht
        have hall : ([22, 22, 36].all fun u => !Tryd.prog.wantsStandIn u) = true := by kernel_rfl
        exact (show Tryd.prog.wantsStandIn t = false by simpa using List.all_eq_true.1 hall t hm)⟩)
    (by kernel_rfl)
#print axioms wordSubstitutes_proved
end Go.Proofs.YtgmfjhmphiiifaaDoor.wordSubstitutes
