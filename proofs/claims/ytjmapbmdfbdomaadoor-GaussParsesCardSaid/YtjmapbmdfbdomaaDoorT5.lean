/- The hooks are sound, in every world that holds what the row lists. -/
import Derived.Test.YtjmapbmdfbdomaaDoorT1
import Derived.Test.YtjmapbmdfbdomaaDoorAwake
import Derived.Test.YtjmapbmdfbdomaaDoorShelf
import Derived.Test.YtjmapbmdfbdomaaDoorAb32
namespace Go.Proofs.YtjmapbmdfbdomaaDoor
open Go.Ab
set_option linter.unusedVariables false

/-- What the package variables hold. -/
structure Facts (W : World) : Prop where
  syn : ∃ t v, W.cell? ⟨4, 0, none⟩ = some (.iface t v)
  rng : ∃ t v, W.cell? ⟨5, 0, none⟩ = some (.iface t v)
  pow : Lib.TabIs Tryd.prog W "internal/strconv.uint64pow10" .u64 Lib.pow10Tab
  asc : Lib.TabIs Tryd.prog W "strings.asciiSpace" .u8 Lib.asciiSpaceTab
  wht : Lib.WhiteTab 1 W

theorem white_agree {g : Nat} {W w : World} (h : Agree W w) (hw : Lib.WhiteTab g W) : Lib.WhiteTab g w := by
  obtain ⟨T, oT, R, oR, h1, h2, h3, h4, h5⟩ := hw
  exact ⟨T, oT, R, oR, h.cell h1, h.cell h2, h.cell h3, h.cell h4, fun i hi => h.cell (h5 i hi)⟩

abbrev BW (W : World) : Base := ⟨W.heap.size, W⟩
theorem ok_join (W : World) : @HkOK (BW W) Tryd.prog 22 joinHook := by
  letI : Base := BW W
  exact joinHook_ok (by kernel_rfl) strings_Join_none strings_Join
section
variable (W : World) (hF : Facts W)
include hF
theorem ok_fields : @HkOK (BW W) Tryd.prog 24 fieldsHook := by
  letI : Base := BW W
  exact fieldsHook_ok (t := 9) (Q := fun w => Agree W w) (by kernel_rfl) (fun w hw => hw) fun s w hs ha => strings_Fields_any s w hs (ha.tab hF.asc) (white_agree ha hF.wht)
theorem ok_atoi : @HkOK (BW W) Tryd.prog 38 atoiHook := by
  letI : Base := BW W
  have hs := hF.syn
  have hr := hF.rng
  refine atoiHook_ok (te := 124) (ty := 5) (by kernel_rfl) ⟨?_, hs⟩ ⟨?_, hr⟩ (fun s h1 v h2 w => strconv_Atoi_ok s h1 v h2 w) (fun s h1 h2 ev w h3 h4 => ⟨fun _ _ _ => True, (strconv_Atoi_bad s h1 h2 ev w h3 h4).mono fun e w' ⟨N, a, b, _, d⟩ => ⟨N, a, b, trivial, d⟩⟩) (fun s h1 h2 ev w h3 h4 => ⟨fun _ _ _ => True, (strconv_Atoi_range s h1 h2 ev w h3 h4).mono fun e w' ⟨N, a, b, _, d⟩ => ⟨N, a, b, trivial, d⟩⟩)
  · obtain ⟨t, v, hc⟩ := hs; exact lt_of_cell hc
  · obtain ⟨t, v, hc⟩ := hr; exact lt_of_cell hc
theorem ok_itoa : @HkOK (BW W) Tryd.prog 20 itoaHook := by
  letI : Base := BW W
  exact itoaHook_ok (g := 2) (nm := "internal/strconv.uint64pow10") (by kernel_rfl) (lt_of_tab (by kernel_rfl) hF.pow) (by kernel_rfl) hF.pow fun n h1 h2 w h3 => strconv_Itoa n h1 h2 w h3
theorem HKs_ok : @HKok (BW W) Tryd.prog HKs := by
  letI : Base := BW W
  intro f g h
  unfold HKs at h
  split at h
  · rename_i hf; simp only [Option.some.injEq] at h; subst hf h; exact ok_join W
  split at h
  · rename_i hf; simp only [Option.some.injEq] at h; subst hf h; exact (ok_fields W hF).less fieldsHookA_less
  split at h
  · rename_i hf; simp only [Option.some.injEq] at h; subst hf h; exact ok_atoi W hF
  split at h
  · rename_i hf; simp only [Option.some.injEq] at h; subst hf h; exact (ok_itoa W hF).less itoaHookA_less
  · exact HK0_ok f g h
theorem HKt_ok : @HKok (BW W) Tryd.prog HKt := by
  letI : Base := BW W
  intro f g h
  unfold HKt at h
  split at h
  · rename_i hf; simp only [Option.some.injEq] at h; subst hf h; exact ok_join W
  split at h
  · rename_i hf; simp only [Option.some.injEq] at h; subst hf h; exact ok_fields W hF
  split at h
  · rename_i hf; simp only [Option.some.injEq] at h; subst hf h; exact ok_atoi W hF
  split at h
  · rename_i hf; simp only [Option.some.injEq] at h; subst hf h; exact ok_itoa W hF
  split at h
  · rename_i hf; simp only [Option.some.injEq] at h; subst hf h; exact awake_ok (HKs_ok W hF)
  · exact HK0_ok f g h
end
end Go.Proofs.YtjmapbmdfbdomaaDoor
