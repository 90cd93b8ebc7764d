/- Proved is the given statement Rows.GaussSwitchesCardSaid: at every input the law GaussSwitches returns true. Its conditions: none beyond the statement's own. -/
import Derived.Test.YtleoalcbgpjieaaDoorRows
import Derived.Test.YtleoalcbgpjieaaDoorCards
import Derived.Test.YtleoalcbgpjieaaDoorTie
import Derived.Test.YtleoalcbgpjieaaDoorSW4
import Derived.MakeChecks
import Derived.Lay
import Derived.Shelf.Vars
import Derived.Lib.LaidU8
import Derived.Lib.SmallJoins
import Derived.SizedLaws
import Derived.WalkKit
import Derived.ProofKit
import Derived.OpenShut
import Derived.ShutString
import Derived.ChangeOld
import Derived.Below
import Derived.LaidMore
import Derived.Stop.Joined
import Derived.SevenTiedAt
namespace Go.Proofs.YtleoalcbgpjieaaDoor.gaussSwitches
open Go.ChangeShapes Go.WideShapes Go.ChangeAt Go.RowKit
open Go.ChangeMaps (open_string shut_string)
set_option linter.unusedVariables false

theorem own : ownKnob Tryd.prog.godebug = none := by kernel_rfl
theorem laidOut : laidOutB Tryd.prog = true := by kernel_rfl

theorem walk (a0a : Option Addr) (len0a cap0a : Nat) (rows0 : List Go.Ab.RowT) (a0b : Option Addr) (len0b cap0b : Nat) (z0b : List Int) (n0c : Int) (n1 : Int) (w : World) (w0a : Go.Ab.RowS w a0a len0a cap0a rows0) (w0b : Go.Ab.RowI .i64 w a0b len0b cap0b z0b) (w0c : (Lit.int .i64 n0c).wf = true) (w0W : len0a ≤ 140737488355328 ∧ ∀ r ∈ rows0, r.2.1 ≤ 140737488355328) (w1 : (Lit.int .u8 n1).wf = true) (hF : Facts w) :
    Calls Tryd.prog 4 #[.agg #[.slice a0a len0a cap0a, .slice a0b len0b cap0b, .int .i64 n0c], .int .u8 n1] w fun e w' => e = .returned (.bool true) ∧ Below w.heap.size w w' := by
  letI : Go.Ab.Base := ⟨w.heap.size, w⟩
  obtain ⟨Lo, Ls, bo, bs, so, hLs, hbs, hso, hbo, hbb, hcc, hwf⟩ := Go.Ab.arg_comps w0a
  obtain ⟨s0b, b0b, L0b, hB0b, hs0b, hi0b, hlen0b⟩ := Go.Ab.arg_ints w0b 0
  obtain ⟨ss, x1, x2, x3⟩ := hcc ([b0b, bo 1] ++ bs) 1 rfl fun j b h => by
    rw [List.getElem?_append_right (by simp only [List.length_cons, List.length_nil]; omega)]
    simpa [show 1 + 1 + j - 2 = j by omega] using h
  have hrl : rows0.length = len0a ∧ ∀ r ∈ rows0, r.2.2.2.length = r.2.1 := by
    rcases w0a with ⟨_, rfl, _, rfl⟩ | ⟨x, _, _, q1, _, q2⟩
    · exact ⟨rfl, by simp⟩
    · refine ⟨q1, fun r hr => ?_⟩
      obtain ⟨j, hj⟩ := List.mem_iff_getElem?.1 hr
      rcases (q2 j r hj).2 with ⟨_, q3, _, q4⟩ | ⟨_, _, _, q3, _⟩
      · rw [q3, q4]; rfl
      · exact q3
  have ic : IsCode ([b0b, bo 1] ++ bs) (so 1) s0b ⟨rows0.map (·.2.2.2), z0b.take len0b, n0c⟩ := by
    refine ⟨⟨ss, by simp [x1], x2, fun j t vs ht hv => ?_⟩, hi0b _ rfl⟩
    simp only [List.getElem?_map, Option.map_eq_some_iff] at hv
    obtain ⟨r, hr, rfl⟩ := hv
    have := x3 j t r ht hr
    unfold IsVis
    rw [vcs_pr]
    exact this
  have hwd : Wide ⟨rows0.map (·.2.2.2), z0b.take len0b, n0c⟩ := by
    refine ⟨by simp only [List.length_map]; rw [hrl.1]; exact w0W.1, ?_, fun c hc => ?_, Go.Ab.lit_i64 w0c, fun v hv => ?_⟩
    · rcases w0b with ⟨_, _, _, rfl⟩ | ⟨x, _, q1, q2, _⟩
      · simp
      · have : maxLen = 9223372036854775807 := by decide
        simp only [List.length_take]; omega
    · obtain ⟨r, hr, rfl⟩ := List.mem_map.1 hc
      rw [hrl.2 r hr]; exact w0W.2 r hr
    · obtain ⟨c, hc, hv⟩ := List.mem_flatten.1 hv
      obtain ⟨r, hr, rfl⟩ := List.mem_map.1 hc
      exact Go.Ab.lit_i64 (hwf r hr v hv)
  obtain ⟨v, h', ⟨N, hN⟩, rfl⟩ := call4 ([b0b, bo 1] ++ bs) (so 1) s0b _ hwd ic n1 (Go.Ab.lit_u8 w1)
  refine Go.Ab.top_belowR ft_ok (HKt_ok w hF) (Ls := [L0b, Lo] ++ Ls) (h := [b0b, bo 1] ++ bs) (by simp [hLs, hbs]) ⟨Nat.le_refl _, fun _ _ => rfl⟩ (fun id L' b' h1 h2 => ?_) (.cons (.agg (.cons (hso 1 _ rfl) (.cons (hs0b _ rfl) (.cons (.int _ _) .nil)))) (.cons (.sc (.int _ _)) .nil)) (hN N (Nat.le_refl _))
  match id, h1, h2 with
  | 0, h1, h2 => simp at h1 h2; subst h1 h2; exact hB0b.r
  | 1, h1, h2 =>
    simp at h1 h2; subst h1 h2
    refine hbo 1 _ fun j L h => ?_
    show ([L0b, Lo] ++ Ls)[1 + 1 + j]? = some L
    rw [List.getElem?_append_right (by simp only [List.length_cons, List.length_nil]; omega)]
    simpa [show 1 + 1 + j - 2 = j by omega] using h
  | id + 2, h1, h2 => exact hbb _ id L' b' (by simpa using h1) (by simpa using h2)

/-- What the listed variables hold. -/
def laidL : List (String × DataW Unit) := [("math/bits.deBruijn32tab", Rows.laid_math_bits_deBruijn32tab), ("math/bits.deBruijn64tab", Rows.laid_math_bits_deBruijn64tab), ("internal/strconv.uint64pow10", Rows.laid_internal_strconv_uint64pow10), ("strconv.ErrRange", Rows.laid_strconv_ErrRange), ("strconv.ErrSyntax", Rows.laid_strconv_ErrSyntax), ("unicode.White_Space", Rows.laid_unicode_White_Space), ("strings.asciiSpace", Rows.laid_strings_asciiSpace)]
/-- A world that meets the condition. -/
theorem door_met (os : Os) (args : Array Value) : laidMetH Tryd.prog laidL ((World.laidAll Tryd.prog os laidL).forCall (fun _ _ => 0) ⟨#[], args, []⟩).memory := by
  rw [MakeChecks.laidMetH_plain _ _ _ (by kernel_rfl)]; exact laidMet_laidAll _ (by kernel_rfl) (by kernel_rfl)
/-- What the package variables hold. -/
theorem facts {W : World} (hsh : W.ShapedOpen Tryd.prog) (hL : laidMetH Tryd.prog laidL W) : Facts W := by
  rw [MakeChecks.laidMetH_plain _ _ _ (by kernel_rfl)] at hL
  have hl : laidMet Tryd.prog [("math/bits.deBruijn32tab", Rows.laid_math_bits_deBruijn32tab), ("math/bits.deBruijn64tab", Rows.laid_math_bits_deBruijn64tab), ("internal/strconv.uint64pow10", Rows.laid_internal_strconv_uint64pow10), ("strconv.ErrRange", Rows.laid_strconv_ErrRange), ("strconv.ErrSyntax", Rows.laid_strconv_ErrSyntax), ("unicode.White_Space", Rows.laid_unicode_White_Space), ("strings.asciiSpace", Rows.laid_strings_asciiSpace)] W := hL
  refine ⟨?_, ?_, ?_, ?_, ?_⟩
  · exact Go.Ab.ifc_of_laid (g := 4) hl.tail.tail.tail.tail (by kernel_rfl) (by kernel_rfl) Tryd.underlying82
  · exact Go.Ab.ifc_of_laid (g := 5) hl.tail.tail.tail (by kernel_rfl) (by kernel_rfl) Tryd.underlying82
  · have e : Rows.laid_internal_strconv_uint64pow10 = (Lib.tabData .u64 Lib.pow10Tab : DataW Unit) := by kernel_rfl
    have h3 := hl.tail.tail
    rw [e] at h3
    exact Lib.tabIs_of_head (g := 2) (by kernel_rfl) (by kernel_rfl) Tryd.underlying142 Tryd.underlying118 (by kernel_rfl) (by kernel_rfl) h3
  · have e : Rows.laid_strings_asciiSpace = (Lib.tabData .u8 Lib.asciiSpaceTab : DataW Unit) := by kernel_rfl
    have h3 := hl.tail.tail.tail.tail.tail.tail
    rw [e] at h3
    exact Lib.tabIs_of_head (g := 0) (by kernel_rfl) (by kernel_rfl) Tryd.underlying103 Tryd.underlying5 (by kernel_rfl) (by kernel_rfl) h3
  · have e : Rows.laid_unicode_White_Space = (Lib.whiteData : DataW Unit) := by kernel_rfl
    have h3 := Lib.laidMet.reads hl (n := "unicode.White_Space") (.tail _ (.tail _ (.tail _ (.tail _ (.tail _ (.head _))))))
    rw [e] at h3
    exact whiteTab_of_reads (ρ := lays157_ren) { lays157 with } ⟨by kernel_rfl, by kernel_rfl, by kernel_rfl, by kernel_rfl, by kernel_rfl, by kernel_rfl, by kernel_rfl, by kernel_rfl⟩ h3
set_option maxRecDepth 100000 in
theorem lifted (os : Os) (started : os.Started) (H : Type) (enc : TypeId × Value → H) :
    ReturnsInHanded {} Tryd.checked os 4 .any (fun w args => (Rows.gaussSwitchesSpec.pre enc Tryd.prog Tryd.f4 [] false w args ∧ laidMetH Tryd.prog laidL w) ∧ sizedMet enc Tryd.prog Tryd.f4 (OpenSpec.ofChange Rows.gaussSwitchesSpec) false w args)
      (Rows.gaussSwitchesSpec.post enc Tryd.prog Tryd.f4 false true false false) := by
  refine returnsInHanded_of_calls (C := Tryd.checked) own started (by kernel_rfl)
    (ChangeSpec.witness_shaped (enc := enc) (C := Tryd.checked) (os := os) (X := fun w _ => laidMetH Tryd.prog laidL w) false (World.laidAll Tryd.prog os laidL) #[.agg #[.slice none 0 0, .slice none 0 0, .int .i64 0], .int .u8 0] 8 (World.laidAll_os _ _ _) (World.shaped_of_ZipB (by kernel_rfl) (by kernel_rfl)) (by kernel_rfl) (by kernel_rfl) (by kernel_rfl) (door_met os _)) ?_
  intro w0 tape i0 _ hsh _ hok hpre _
  obtain ⟨_, _, _, fn', hfn', _, _, _, _, hval0⟩ := hok
  obtain rfl : fn' = Tryd.f4 := Option.some.inj (hfn'.symm.trans Tryd.func4)
  obtain ⟨⟨⟨ds, gs, before, hw0, hc⟩, hx⟩, hz⟩ := hpre
  have hW := DataW.Whole.of_heap (w' := w0.forCall tape i0) (by rfl) hw0
  have hP := facts hsh (laidMetH.of_heap (w' := w0.forCall tape i0) (by rfl) hx)
  have hWt := hz.weights hw0
  generalize w0.heap.size = base at hval0
  clear hw0 hx hz hc hsh
  generalize w0.forCall tape i0 = W at *
  generalize i0.args = args at *
  have hval : ∀ (j : Nat) t v, Tryd.f4.params[j]? = some t → args[j]? = some v → Value.okWide Tryd.prog W .any base t v := hval0
  have hW' := hW
  obtain ⟨p, q, hA0, hV, rfl, hfz, hnd⟩ := hW
  have hA : DataW.TrodAll enc Tryd.prog W 0 (fun _ => true) true Tryd.f4.params.toList args.toList ds p := hA0
  rw [Tryd.params4] at hA hval
  obtain ⟨v0, vs0, d0, ds0, p0, q0, hargs, rfl, rfl, h0, r0⟩ := trodAll_cons hA
  obtain ⟨v1, vs1, d1, ds1, p1, q1, rfl, rfl, rfl, h1, r1⟩ := trodAll_cons r0
  obtain ⟨rfl, rfl, rfl⟩ := trodAll_nil r1
  obtain rfl : args = #[v0, v1] := by cases args; simp_all
  obtain ⟨rfl, rfl⟩ := trodVars_none hV
  have k0 := h0
  have lt0 : ∀ x ∈ p0, x.block < W.heap.size := by obtain ⟨m, hm⟩ := k0; exact DataW.trod_lt m _ _ _ hm
  obtain ⟨u0a, u0b, u0c, y0a, y0b, y0c, m0, rfl, rfl, rfl, h0a, h0b, h0c⟩ := Go.Joins.open_agg3 Tryd.underlying28 (by kernel_rfl) (by kernel_rfl) (hval 0 28 v0 rfl rfl) h0
  obtain ⟨a0a, len0a, cap0a, rows0, e0a, w0a, hR0⟩ := Go.Ab.rows_of Tryd.underlying26 Tryd.underlying42 Tryd.underlying44 ⟨rfl, rfl⟩ ⟨rfl, rfl⟩ Tryd.underlying3 Tryd.underlying4 (by kernel_rfl) (by kernel_rfl) (by kernel_rfl) (by kernel_rfl) h0a reachBytes
  simp at e0a
  subst e0a
  obtain ⟨a0b, len0b, cap0b, z0b, rfl, w0b⟩ : ∃ a l c zs, u0b = .slice a l c ∧ Go.Ab.RowI .i64 W a l c zs := by
    rcases open_ints Tryd.underlying22 Tryd.underlying3 (by kernel_rfl) h0b with ⟨hcs, _⟩ | ⟨x, l, c, zs, hcs, _, hl, hm, hz, _, hcell, hwz⟩
    · exact ⟨none, 0, 0, [], by simpa using hcs, .inl ⟨rfl, rfl, rfl, rfl⟩⟩
    · exact ⟨some x, l, c, zs, by simpa using hcs, .inr ⟨_, rfl, hl, hm, by simpa using hz, hcell, hwz⟩⟩
  obtain ⟨n0c, e0c, rfl, w0c⟩ := DataW.trod_int Tryd.underlying3 h0c
  simp at e0c
  subst e0c
  have w0W : len0a ≤ 140737488355328 ∧ ∀ r ∈ rows0, r.2.1 ≤ 140737488355328 := by
    rw [Tryd.params4] at hWt
    have e1 : Tryd.prog.bytesOf 42 = 24 := by kernel_rfl
    have e2 : Tryd.prog.bytesOf 44 = 16 := by kernel_rfl
    have e3 : reachBytes ≤ 140737488355328 := by decide
    obtain ⟨q1, q2⟩ := hR0 fun n hn => by
      refine of_decide_eq_true (List.all_eq_true.1 hWt n (DataW.weights_mem_each (j := 0) (t := 28) rfl rfl n ?_))
      simp only [DataW.weights, Tryd.underlying28]
      exact DataW.weights_mem_each (j := 0) (t := 26) rfl rfl n hn
    rw [e1] at q1
    refine ⟨by omega, fun r hr => ?_⟩
    have := q2 r hr
    rw [e2] at this
    omega
  obtain ⟨n1, rfl, rfl, rfl, w1⟩ := open_int Tryd.underlying5 (hval 1 5 v1 rfl rfl) h1
  clear hA0 hval0
  refine (walk a0a len0a cap0a rows0 a0b len0b cap0b z0b n0c n1 W w0a w0b w0c w0W w1 hP).mono fun e W' ⟨he, bel⟩ => ?_
  subst he
  refine ChangeSpec.post_blind ?_
  exact ⟨_, _, _, [], _, [], hW', trodAll_mk1 (shut_bool Tryd.underlying4 _), (trodAll_cons_mk (Below.trod laidOut (by kernel_rfl) (of_decide_eq_true (by kernel_rfl)) k0 bel lt0) (trodAll_cons_mk (shut_int Tryd.underlying5 w1) trodAll_mk0)), rfl, bel.frame _, fun h => by cases h⟩

theorem over : Rows.gaussSwitchesRow.holds Tryd.pinned (OpenSpec.ofChange Rows.gaussSwitchesSpec) :=
  OpenClaim.holds_of_wide 4 Tryd.f4 rfl rfl rfl rfl rfl rfl rfl ⟨rfl, rfl, rfl, rfl, rfl⟩ rfl rfl rfl rfl rfl (by kernel_rfl) Tryd.func4 (by kernel_rfl)
    (of_decide_eq_true (by kernel_rfl)) (by unfold Func.isWrapper; first | (rw [if_pos (by decide +kernel)]; kernel_rfl) | (rw [if_neg (by decide +kernel)]; exact ⟨rfl, rfl⟩))
    (fun os started H enc _ => lifted os started H enc)

theorem gaussSwitches_proved : Rows.GaussSwitchesCardSaid :=
  Claim7.holds_tied_plain_at .later [] [.data, .data, .data, .sentinel, .sentinel, .listed, .data] true (true, "8ded6d569e1281e0b432471e96f86a6db5a4f11fa42ba9e786882e8210787dc3") true
    over (fun _ h => by cases h) (by kernel_rfl) (fun _ h => by cases h) gaussSwitches_row_tie rfl ⟨rfl, rfl⟩ (by kernel_rfl) rfl
    (fun f fn hf hfn => by
      obtain rfl : f = 4 := Option.some.inj ((show Tryd.prog.funcNamed "unravel/unravellaw02.GaussSwitches" = some 4 by kernel_rfl).symm.trans hf) |>.symm
      obtain rfl : fn = Tryd.f4 := (Option.some.inj (Tryd.func4.symm.trans hfn)).symm
      exact ⟨by kernel_rfl, fun j t ht => by
        rw [Tryd.params4] at ht
        have hm : t ∈ [28, 5] := by simpa using Array.mem_of_getElem? ht
        have hall : ([28, 5].all fun u => !Tryd.prog.wantsStandIn u) = true := by kernel_rfl
        exact (show Tryd.prog.wantsStandIn t = false by simpa using List.all_eq_true.1 hall t hm)⟩)
    (by kernel_rfl)
#print axioms gaussSwitches_proved
end Go.Proofs.YtleoalcbgpjieaaDoor.gaussSwitches
