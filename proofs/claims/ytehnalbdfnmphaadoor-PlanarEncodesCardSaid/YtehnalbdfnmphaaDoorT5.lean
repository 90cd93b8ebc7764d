/- The hooks are sound, in every world that holds what the row lists. -/
import Derived.Test.YtehnalbdfnmphaaDoorT1
import Derived.Test.YtehnalbdfnmphaaDoorAwake
import Derived.Test.YtehnalbdfnmphaaDoorShelf
import Derived.Test.YtehnalbdfnmphaaDoorAb32
namespace Go.Proofs.YtehnalbdfnmphaaDoor
open Go.Ab
set_option linter.unusedVariables false

/-- What the package variables hold. -/
structure Facts (W : World) : Prop where
  pow : Lib.TabIs Tryd.prog W "internal/strconv.uint64pow10" .u64 Lib.pow10Tab

abbrev BW (W : World) : Base := ⟨W.heap.size, W⟩
section
variable (W : World) (hF : Facts W)
include hF
theorem ok_itoa : @HkOK (BW W) Tryd.prog 26 itoaHook := by
  letI : Base := BW W
  exact itoaHook_ok (g := 3) (nm := "internal/strconv.uint64pow10") (by kernel_rfl) (lt_of_tab (by kernel_rfl) hF.pow) (by kernel_rfl) hF.pow fun n h1 h2 w h3 => strconv_Itoa n h1 h2 w h3
theorem HKs_ok : @HKok (BW W) Tryd.prog HKs := by
  letI : Base := BW W
  intro f g h
  unfold HKs at h
  split at h
  · rename_i hf; simp only [Option.some.injEq] at h; subst hf h; exact (ok_itoa W hF).less itoaHookA_less
  · exact HK0_ok f g h
theorem HKt_ok : @HKok (BW W) Tryd.prog HKt := by
  letI : Base := BW W
  intro f g h
  unfold HKt at h
  split at h
  · rename_i hf; simp only [Option.some.injEq] at h; subst hf h; exact ok_itoa W hF
  split at h
  · rename_i hf; simp only [Option.some.injEq] at h; subst hf h; exact awake_ok (HKs_ok W hF)
  · exact HK0_ok f g h
end
end Go.Proofs.YtehnalbdfnmphaaDoor
