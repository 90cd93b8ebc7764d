/- Proved is the given statement Rows.DowkerBackSaid: at every input the law DowkerBack returns true. Its conditions: none beyond the statement's own. -/
import Derived.Test.YtooafhbjbpaacaaRows
import Derived.Test.YtooafhbjbpaacaaLaw6
import Derived.Lib.SmallJoins
import Derived.WalkKit
import Derived.ProofKit
import Derived.OpenShut
import Derived.ShutString
import Derived.ChangeOld
import Derived.Below
namespace Go.Proofs.Ytooafhbjbpaacaa.dowkerBack
open Go.ChangeShapes Go.WideShapes Go.ChangeAt Go.RowKit
open Go.ChangeMaps (open_string shut_string)
set_option linter.unusedVariables false

theorem own : ownKnob Try.prog.godebug = none := by kernel_rfl
theorem laidOut : laidOutB Try.prog = true := by kernel_rfl

theorem walk (a0a : Option Addr) (len0a cap0a : Nat) (z0a : List Int) (a0b : Option Addr) (len0b cap0b : Nat) (z0b : List Int) (n0c : Int) (w : World) (w0a : Go.Ab.RowI .i64 w a0a len0a cap0a z0a) (w0b : Go.Ab.RowI .i64 w a0b len0b cap0b z0b) (w0c : (Lit.int .i64 n0c).wf = true) :
    Calls Try.prog 6 #[.agg #[.slice a0a len0a cap0a, .slice a0b len0b cap0b, .int .i64 n0c]] w fun e w' => e = .returned (.bool true) ∧ Below w.heap.size w w' := by
  letI : Go.Ab.Base := ⟨w.heap.size, w⟩
  obtain ⟨s0a, b0a, L0a, hB0a, hs0a, hi0a, hlen0a⟩ := Go.Ab.arg_ints w0a 0
  obtain ⟨s0b, b0b, L0b, hB0b, hs0b, hi0b, hlen0b⟩ := Go.Ab.arg_ints w0b 1
  obtain ⟨v, h', ⟨N, hN⟩, rfl⟩ := call6 [b0a, b0b] s0a (z0a.take len0a) (hi0a [b0a, b0b] rfl) s0b (z0b.take len0b) (hi0b [b0a, b0b] rfl) n0c (Go.Ab.lit_i64 w0c)
  refine Go.Ab.top_below ft_ok HK1_ok (Ls := [L0a, L0b]) (h := [b0a, b0b]) rfl ⟨Nat.le_refl _, fun _ _ => rfl⟩ (fun id L' b' h1 h2 => ?_) (.cons (.agg (.cons (hs0a _ rfl) (.cons (hs0b _ rfl) (.cons (.int _ _) .nil)))) .nil) (hN N (Nat.le_refl _))
  match id, h1, h2 with
  | 0, h1, h2 => simp at h1 h2; subst h1 h2; exact hB0a
  | 1, h1, h2 => simp at h1 h2; subst h1 h2; exact hB0b
  | _ + 2, h1, h2 => simp at h1


set_option maxRecDepth 100000 in
theorem lifted (os : Os) (started : os.Started) (H : Type) (enc : TypeId × Value → H) :
    ReturnsInHanded {} Try.checked os 6 .any (Rows.dowkerBackSpec.pre6 enc Try.prog Try.f6 Rows.dowkerBackRow.domain false) (Rows.dowkerBackSpec.post enc Try.prog Try.f6 false true false false) := by
  refine returnsInHanded_of_change (C := Try.checked) own started (by kernel_rfl) Try.func6
    (ChangeSpec.witness6 (enc := enc) (C := Try.checked) false ⟨#[], #[.agg #[.slice none 0 0, .slice none 0 0, .int .i64 0]], []⟩ 8 (by kernel_rfl) (by kernel_rfl) (by kernel_rfl) (by kernel_rfl)) ?_
  intro W base args ds gs before hval0 hW hcnd _
  have hval : ∀ (j : Nat) t v, Try.f6.params[j]? = some t → args[j]? = some v → Value.okWide Try.prog W .any base t v := hval0
  have hW' := hW
  obtain ⟨p, q, hA0, hV, rfl, hfz, hnd⟩ := hW
  have hA : DataW.TrodAll enc Try.prog W 0 (fun _ => true) true Try.f6.params.toList args.toList ds p := hA0
  rw [Try.params6] at hA hval
  obtain ⟨v0, vs0, d0, ds0, p0, q0, hargs, rfl, rfl, h0, r0⟩ := trodAll_cons hA
  obtain ⟨rfl, rfl, rfl⟩ := trodAll_nil r0
  obtain rfl : args = #[v0] := by cases args; simp_all
  obtain ⟨rfl, rfl⟩ := trodVars_none hV
  have k0 := h0
  have lt0 : ∀ x ∈ p0, x.block < W.heap.size := by obtain ⟨m, hm⟩ := k0; exact DataW.trod_lt m _ _ _ hm
  obtain ⟨u0a, u0b, u0c, y0a, y0b, y0c, m0, rfl, rfl, rfl, h0a, h0b, h0c⟩ := Go.Joins.open_agg3 Try.underlying24 (by kernel_rfl) (by kernel_rfl) (hval 0 24 v0 rfl rfl) h0
  obtain ⟨a0a, len0a, cap0a, z0a, rfl, w0a⟩ : ∃ a l c zs, u0a = .slice a l c ∧ Go.Ab.RowI .i64 W a l c zs := by
    rcases open_ints Try.underlying22 Try.underlying3 (by kernel_rfl) h0a with ⟨hcs, _⟩ | ⟨x, l, c, zs, hcs, _, hl, hm, hz, _, hcell, hwz⟩
    · exact ⟨none, 0, 0, [], by simpa using hcs, .inl ⟨rfl, rfl, rfl, rfl⟩⟩
    · exact ⟨some x, l, c, zs, by simpa using hcs, .inr ⟨_, rfl, hl, hm, by simpa using hz, hcell, hwz⟩⟩
  obtain ⟨a0b, len0b, cap0b, z0b, rfl, w0b⟩ : ∃ a l c zs, u0b = .slice a l c ∧ Go.Ab.RowI .i64 W a l c zs := by
    rcases open_ints Try.underlying22 Try.underlying3 (by kernel_rfl) h0b with ⟨hcs, _⟩ | ⟨x, l, c, zs, hcs, _, hl, hm, hz, _, hcell, hwz⟩
    · exact ⟨none, 0, 0, [], by simpa using hcs, .inl ⟨rfl, rfl, rfl, rfl⟩⟩
    · exact ⟨some x, l, c, zs, by simpa using hcs, .inr ⟨_, rfl, hl, hm, by simpa using hz, hcell, hwz⟩⟩
  obtain ⟨n0c, e0c, rfl, w0c⟩ := DataW.trod_int Try.underlying3 h0c
  simp at e0c
  subst e0c
  clear hA0 hval0
  refine (walk a0a len0a cap0a z0a a0b len0b cap0b z0b n0c W w0a w0b w0c).mono fun e W' ⟨he, bel⟩ => ?_
  subst he
  skip
  exact ⟨_, rfl, _, _, _, [], _, [], hW', trodAll_mk1 (shut_bool Try.underlying4 _), (trodAll_cons_mk (Below.trod laidOut (by kernel_rfl) (of_decide_eq_true (by kernel_rfl)) k0 bel lt0) trodAll_mk0), rfl, bel.frame _, fun h => by cases h⟩

theorem over : Rows.dowkerBackRow.holds Try.pinned (OpenSpec.ofChange Rows.dowkerBackSpec) :=
  OpenClaim.holds_of_wide 6 Try.f6 rfl rfl rfl rfl rfl rfl rfl ⟨rfl, rfl, rfl, rfl, rfl⟩ rfl rfl rfl rfl rfl (by kernel_rfl) Try.func6 (by kernel_rfl)
    (of_decide_eq_true (by kernel_rfl)) (by unfold Func.isWrapper; first | (rw [if_pos (by decide +kernel)]; kernel_rfl) | (rw [if_neg (by decide +kernel)]; exact ⟨rfl, rfl⟩))
    (fun os started H enc _ => lifted os started H enc)

theorem dowkerBack_proved : Rows.DowkerBackSaid := over
#print axioms dowkerBack_proved
end Go.Proofs.Ytooafhbjbpaacaa.dowkerBack
