/- Contracts of the library at this program, as the kit lays them: strconv_Itoa. -/
import Derived.Shelf.LaysM
import Derived.Shelf.Strconv.Itoa3
import Derived.Test.YtlnjddjobbhcaaaDoorProg
import Derived.Test.YtlnjddjobbhcaaaDoorT1
import Derived.Test.YtlnjddjobbhcaaaDoorAwake
import Derived.Test.YtlnjddjobbhcaaaDoorShK
import Derived.Test.YtlnjddjobbhcaaaDoorAb32
namespace Go.Proofs.YtlnjddjobbhcaaaDoor
open Go.Shelf
def laysM171_ren : Go.Shelf.Ren := ⟨fun | 171 => 67 | 243 => 88 | 246 => 102 | 283 => 108 | 284 => 109 | 285 => 110 | 286 => 111 | 129 => 103 | 317 => 122 | 318 => 123 | 319 => 124 | 320 => 125 | 337 => 131 | 338 => 132 | n => n, fun | 3 => 3 | 9 => 9 | 2 => 2 | 4 => 4 | 171 => 139 | 0 => 0 | 53 => 65 | 37 => 88 | 5 => 5 | 173 => 141 | 212 => 153 | 51 => 151 | 20 => 20 | 213 => 154 | 46 => 98 | 232 => 164 | 233 => 165 | n => n, fun | 17 => 2 | 18 => 3 | 19 => 4 | n => n⟩
theorem laysM171 : Go.Proofs.LaysM.n171 Tryd.prog laysM171_ren := {
  mixed := by kernel_rfl
  f129 := Tryd.func103.trans (congrArg some (by kernel_rfl))
  f171 := Tryd.func67.trans (congrArg some (by kernel_rfl))
  f243 := Tryd.func88.trans (congrArg some (by kernel_rfl))
  f246 := Tryd.func102.trans (congrArg some (by kernel_rfl))
  f283 := Tryd.func108.trans (congrArg some (by kernel_rfl))
  f284 := Tryd.func109.trans (congrArg some (by kernel_rfl))
  f285 := Tryd.func110.trans (congrArg some (by kernel_rfl))
  f286 := Tryd.func111.trans (congrArg some (by kernel_rfl))
  f317 := Tryd.func122.trans (congrArg some (by kernel_rfl))
  f318 := Tryd.func123.trans (congrArg some (by kernel_rfl))
  f319 := Tryd.func124.trans (congrArg some (by kernel_rfl))
  f320 := Tryd.func125.trans (congrArg some (by kernel_rfl))
  f337 := Tryd.func131.trans (congrArg some (by kernel_rfl))
  f338 := Tryd.func132.trans (congrArg some (by kernel_rfl))
  t0 := Tryd.underlying0
  a0 := Tryd.isAgg0
  z0 := Tryd.sizeOf0
  v0 := Tryd.zeroValue0
  t2 := Tryd.underlying2
  a2 := Tryd.isAgg2
  z2 := Tryd.sizeOf2
  v2 := Tryd.zeroValue2
  t3 := Tryd.underlying3
  a3 := Tryd.isAgg3
  z3 := Tryd.sizeOf3
  v3 := Tryd.zeroValue3
  t4 := Tryd.underlying4
  a4 := Tryd.isAgg4
  z4 := Tryd.sizeOf4
  v4 := Tryd.zeroValue4
  t5 := Tryd.underlying5
  a5 := Tryd.isAgg5
  z5 := Tryd.sizeOf5
  v5 := Tryd.zeroValue5
  t9 := Tryd.underlying9
  a9 := Tryd.isAgg9
  z9 := Tryd.sizeOf9
  v9 := Tryd.zeroValue9
  t20 := Tryd.underlying20
  a20 := Tryd.isAgg20
  z20 := Tryd.sizeOf20
  v20 := Tryd.zeroValue20
  t37 := Tryd.underlying88
  a37 := Tryd.isAgg88
  z37 := Tryd.sizeOf88
  v37 := Tryd.zeroValue88
  t46 := Tryd.underlying98
  a46 := Tryd.isAgg98
  z46 := Tryd.sizeOf98
  v46 := Tryd.zeroValue98
  t51 := Tryd.underlying151
  a51 := Tryd.isAgg151
  z51 := Tryd.sizeOf151
  v51 := Tryd.zeroValue151
  t53 := Tryd.underlying65
  a53 := Tryd.isAgg65
  z53 := Tryd.sizeOf65
  v53 := Tryd.zeroValue65
  t171 := Tryd.underlying139
  a171 := Tryd.isAgg139
  z171 := Tryd.sizeOf139
  v171 := Tryd.zeroValue139
  t173 := Tryd.underlying141
  a173 := Tryd.isAgg141
  z173 := Tryd.sizeOf141
  v173 := Tryd.zeroValue141
  t212 := Tryd.underlying153
  a212 := Tryd.isAgg153
  z212 := Tryd.sizeOf153
  v212 := Tryd.zeroValue153
  t213 := Tryd.underlying154
  a213 := Tryd.isAgg154
  z213 := Tryd.sizeOf154
  t232 := Tryd.underlying164
  a232 := Tryd.isAgg164
  z232 := Tryd.sizeOf164
  v232 := Tryd.zeroValue164
  t233 := Tryd.underlying165
  a233 := Tryd.isAgg165
  z233 := Tryd.sizeOf165
  v233 := Tryd.zeroValue165
  g17 := by kernel_rfl
  g18 := by kernel_rfl
  g19 := by kernel_rfl
  i0 := by kernel_rfl
  i2 := by kernel_rfl
  i3 := by kernel_rfl
  i4 := by kernel_rfl
  i5 := by kernel_rfl
  i9 := by kernel_rfl
  i20 := by kernel_rfl
  i37 := by kernel_rfl
  i46 := by kernel_rfl
  i51 := by kernel_rfl
  i53 := by kernel_rfl
  i171 := by kernel_rfl
  i173 := by kernel_rfl
  i212 := by kernel_rfl
  i232 := by kernel_rfl
  i233 := by kernel_rfl
  m17 := by kernel_rfl
  m18 := by kernel_rfl
  m19 := by kernel_rfl }
open Go.RowKit Go.Sort Go.Lib in
theorem strconv_Itoa (n : Int) (h0 : -9223372036854775808 ≤ n) (h1 : n ≤ 9223372036854775807) (w : World) (htab : Lib.TabIs Tryd.prog w "internal/strconv.uint64pow10" .u64 Lib.pow10Tab) :
    Calls Tryd.prog 67 #[.int .i64 n] w fun e w' => e = .returned (.string ⟨(Lib.itoa n).toArray⟩) ∧ ∃ k os, w' = grow (w.drewN k) os := Any.strconv_Itoa laysM171 n h0 h1 w htab
end Go.Proofs.YtlnjddjobbhcaaaDoor



/- The hooks are sound, in every world that holds what the row lists. -/
namespace Go.Proofs.YtlnjddjobbhcaaaDoor
open Go.Ab
set_option linter.unusedVariables false

/-- What the package variables hold. -/
structure Facts (W : World) : Prop where
  pow : Lib.TabIs Tryd.prog W "internal/strconv.uint64pow10" .u64 Lib.pow10Tab

abbrev BW (W : World) : Base := ⟨W.heap.size, W⟩
section
variable (W : World) (hF : Facts W)
include hF
theorem ok_itoa : @HkOK (BW W) Tryd.prog 67 itoaHook := by
  letI : Base := BW W
  exact itoaHook_ok (g := 2) (nm := "internal/strconv.uint64pow10") (by kernel_rfl) (lt_of_tab (by kernel_rfl) hF.pow) (by kernel_rfl) hF.pow fun n h1 h2 w h3 => strconv_Itoa n h1 h2 w h3
theorem HKs_ok : @HKok (BW W) Tryd.prog HKs := by
  letI : Base := BW W
  intro f g h
  unfold HKs at h
  split at h
  · rename_i hf; simp only [Option.some.injEq] at h; subst hf h; exact (ok_itoa W hF).less itoaHookB_less
  · exact HK0_ok f g h
theorem HKt_ok : @HKok (BW W) Tryd.prog HKt := by
  letI : Base := BW W
  intro f g h
  unfold HKt at h
  split at h
  · rename_i hf; simp only [Option.some.injEq] at h; subst hf h; exact ok_itoa W hF
  split at h
  · rename_i hf; simp only [Option.some.injEq] at h; subst hf h; exact awake_ok (HKs_ok W hF)
  split at h
  · rename_i hf; simp only [Option.some.injEq] at h; subst hf h; exact keysHook_ok (by kernel_rfl) keys_call
  split at h
  · rename_i hf; simp only [Option.some.injEq] at h; subst hf h; exact sortedHook_ok (by kernel_rfl) Tryd.underlying3 sorted_call
  · exact HK0_ok f g h
end
end Go.Proofs.YtlnjddjobbhcaaaDoor

