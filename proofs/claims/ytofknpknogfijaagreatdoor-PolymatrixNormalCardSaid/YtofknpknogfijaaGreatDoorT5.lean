/- The wakening says true. -/
import Derived.Test.YtofknpknogfijaaGreatDoorHs
import Derived.Test.YtofknpknogfijaaGreatDoorAb49
import Derived.Shelf.LaysM
import Derived.Shelf.Spec.TrailingZeros
import Derived.Shelf.Strconv.Itoa3
import Derived.Test.YtofknpknogfijaaGreatDoorProg
import Derived.Test.YtofknpknogfijaaGreatDoorW1
import Derived.Test.YtofknpknogfijaaGreatDoorAb32
namespace Go.Proofs.YtofknpknogfijaaGreatDoor
open Go.Ab
set_option linter.unusedVariables false
set_option maxRecDepth 100000
def HRs : FuncId → Option HookR := fun f => if f = 78 then some (ccR 77) else (HKs f).map liftR
/-- Hooks that do not look into memory. -/
def Blind (g : Hook) : Prop := ∀ args v h1 h, g args [] = some (v, h1) → g args h = some (v, h)
theorem Blind.sim {g : Hook} (b : Blind g) {args : List AV} {r r' : RH} {v : AV} (o : r.Ok) (h : liftR g args r = some (v, r')) : r'.Ok ∧ g args r.h = some (v, r'.h) := by
  unfold liftR at h
  rw [Option.map_eq_some_iff] at h
  obtain ⟨⟨v2, h2⟩, e1, e2⟩ := h
  cases e2
  exact ⟨o, b _ _ _ _ e1⟩
theorem frc_blind {n : Nat} {x : Nat → AV} {c : Prop} [Decidable c] {v : AV} {h1 h : Heap} (e : (if c then frc n (fun r => some (x r, ([] : Heap))) else none) = some (v, h1)) : (if c then frc n (fun r => some (x r, h)) else none) = some (v, h) := by
  split at e
  · rename_i hc
    rw [frc_eq] at e
    cases e
    rw [if_pos hc, frc_eq]
  · cases e
theorem bl_mul : Blind mulHook := fun args v h1 h e => by
  unfold mulHook at e ⊢
  split at e
  · exact frc_blind e
  · cases e
theorem bl_pow : Blind powHook := fun args v h1 h e => by
  unfold powHook at e ⊢
  split at e
  · exact frc_blind e
  · cases e
theorem bl_add : Blind addHook := fun args v h1 h e => by
  unfold addHook at e ⊢
  split at e
  · exact frc_blind e
  · cases e
theorem bl_sub : Blind subHook := fun args v h1 h e => by
  unfold subHook at e ⊢
  split at e
  · exact frc_blind e
  · cases e
theorem bl_of : Blind ofHook := fun args v h1 h e => by
  unfold ofHook at e ⊢
  split at e
  · exact frc_blind e
  · cases e
theorem bl_inv : Blind invHook := fun args v h1 h e => by
  unfold invHook at e ⊢
  split at e
  · exact frc_blind e
  · cases e
theorem bl_pr : Blind prHook := fun args v h1 h e => by
  unfold prHook at e ⊢
  split at e
  · split at e
    · rename_i hc; cases e; rw [if_pos hc]
    · cases e
  · cases e
theorem bl_itoa : Blind itoaHookB := fun args v h1 h e => by
  unfold itoaHookB at e ⊢
  split at e
  · split at e
    · rename_i hc; cases e; rw [if_pos hc]
    · cases e
  · cases e
theorem simS : SimHK HRs HKs := fun f => by
  by_cases h78 : f = 78
  · subst h78
    exact ⟨ccHook 77, rfl, fun args r v r' o h => ccR_ok o h⟩
  · have e : HRs f = (HKs f).map liftR := by unfold HRs; rw [if_neg h78]
    rw [e]
    cases hk : HKs f with
    | none => rfl
    | some g =>
      refine ⟨g, rfl, fun args r v r' o h => Blind.sim ?_ o h⟩
      unfold HKs at hk
      split at hk
      · cases hk; exact bl_itoa
      split at hk
      · cases hk; exact bl_add
      split at hk
      · cases hk; exact bl_sub
      split at hk
      · cases hk; exact bl_of
      split at hk
      · cases hk; exact bl_inv
      split at hk
      · cases hk; exact bl_mul
      split at hk
      · cases hk; exact bl_pow
      split at hk
      · cases hk; exact bl_pr
      · unfold HK0 at hk; rw [if_neg h78] at hk; cases hk
def isTR : Option (AV × RH) → Bool
  | some (.sc (.bool b), _) => b
  | _ => false
theorem awake_runR : isTR (callR phS FT HRs 1000 9 [] (0, [])) = true := by kernel_rfl
theorem awake_run : ∃ h', callA FT HKs 1000 9 [] [] = some (.sc (.bool true), h') := by
  have h := awake_runR
  unfold isTR at h
  split at h
  · rename_i b r hr
    subst h
    obtain ⟨k1, k2⟩ := callR_ok simS phS_ok 1000 _ _ _ _ _ (show RH.Ok (0, []) from rfl) hr
    exact ⟨_, k2⟩
  · cases h
theorem awake_ok [Base] (h : HKok Tryz.prog HKs) : HkOK Tryz.prog 9 (constHook (.sc (.bool true))) := by
  obtain ⟨h', hr⟩ := awake_run
  exact constHook_same ft_ok h (fun β β' c h => by cases h; exact .bool _) hr
end Go.Proofs.YtofknpknogfijaaGreatDoor


namespace Go.Proofs.YtofknpknogfijaaGreatDoor
open Go.Shelf
def laysM171_ren : Go.Shelf.Ren := ⟨fun | 171 => 43 | 243 => 79 | 246 => 110 | 283 => 132 | 284 => 133 | 285 => 134 | 286 => 135 | 129 => 139 | 317 => 142 | 318 => 143 | 319 => 144 | 320 => 145 | 337 => 155 | 338 => 138 | n => n, fun | 3 => 3 | 9 => 9 | 2 => 2 | 4 => 4 | 171 => 182 | 0 => 0 | 53 => 99 | 37 => 75 | 5 => 5 | 173 => 184 | 212 => 193 | 51 => 190 | 20 => 20 | 213 => 194 | 46 => 159 | 232 => 209 | 233 => 202 | n => n, fun | 17 => 2 | 18 => 4 | 19 => 3 | n => n⟩
theorem laysM171 : Go.Proofs.LaysM.n171 Tryz.prog laysM171_ren := {
  mixed := by kernel_rfl
  f129 := Tryz.func139.trans (congrArg some (by kernel_rfl))
  f171 := Tryz.func43.trans (congrArg some (by kernel_rfl))
  f243 := Tryz.func79.trans (congrArg some (by kernel_rfl))
  f246 := Tryz.func110.trans (congrArg some (by kernel_rfl))
  f283 := Tryz.func132.trans (congrArg some (by kernel_rfl))
  f284 := Tryz.func133.trans (congrArg some (by kernel_rfl))
  f285 := Tryz.func134.trans (congrArg some (by kernel_rfl))
  f286 := Tryz.func135.trans (congrArg some (by kernel_rfl))
  f317 := Tryz.func142.trans (congrArg some (by kernel_rfl))
  f318 := Tryz.func143.trans (congrArg some (by kernel_rfl))
  f319 := Tryz.func144.trans (congrArg some (by kernel_rfl))
  f320 := Tryz.func145.trans (congrArg some (by kernel_rfl))
  f337 := Tryz.func155.trans (congrArg some (by kernel_rfl))
  f338 := Tryz.func138.trans (congrArg some (by kernel_rfl))
  t0 := Tryz.underlying0
  a0 := Tryz.isAgg0
  z0 := Tryz.sizeOf0
  v0 := Tryz.zeroValue0
  t2 := Tryz.underlying2
  a2 := Tryz.isAgg2
  z2 := Tryz.sizeOf2
  v2 := Tryz.zeroValue2
  t3 := Tryz.underlying3
  a3 := Tryz.isAgg3
  z3 := Tryz.sizeOf3
  v3 := Tryz.zeroValue3
  t4 := Tryz.underlying4
  a4 := Tryz.isAgg4
  z4 := Tryz.sizeOf4
  v4 := Tryz.zeroValue4
  t5 := Tryz.underlying5
  a5 := Tryz.isAgg5
  z5 := Tryz.sizeOf5
  v5 := Tryz.zeroValue5
  t9 := Tryz.underlying9
  a9 := Tryz.isAgg9
  z9 := Tryz.sizeOf9
  v9 := Tryz.zeroValue9
  t20 := Tryz.underlying20
  a20 := Tryz.isAgg20
  z20 := Tryz.sizeOf20
  v20 := Tryz.zeroValue20
  t37 := Tryz.underlying75
  a37 := Tryz.isAgg75
  z37 := Tryz.sizeOf75
  v37 := Tryz.zeroValue75
  t46 := Tryz.underlying159
  a46 := Tryz.isAgg159
  z46 := Tryz.sizeOf159
  v46 := Tryz.zeroValue159
  t51 := Tryz.underlying190
  a51 := Tryz.isAgg190
  z51 := Tryz.sizeOf190
  v51 := Tryz.zeroValue190
  t53 := Tryz.underlying99
  a53 := Tryz.isAgg99
  z53 := Tryz.sizeOf99
  v53 := Tryz.zeroValue99
  t171 := Tryz.underlying182
  a171 := Tryz.isAgg182
  z171 := Tryz.sizeOf182
  v171 := Tryz.zeroValue182
  t173 := Tryz.underlying184
  a173 := Tryz.isAgg184
  z173 := Tryz.sizeOf184
  v173 := Tryz.zeroValue184
  t212 := Tryz.underlying193
  a212 := Tryz.isAgg193
  z212 := Tryz.sizeOf193
  v212 := Tryz.zeroValue193
  t213 := Tryz.underlying194
  a213 := Tryz.isAgg194
  z213 := Tryz.sizeOf194
  t232 := Tryz.underlying209
  a232 := Tryz.isAgg209
  z232 := Tryz.sizeOf209
  v232 := Tryz.zeroValue209
  t233 := Tryz.underlying202
  a233 := Tryz.isAgg202
  z233 := Tryz.sizeOf202
  v233 := Tryz.zeroValue202
  g17 := by kernel_rfl
  g18 := by kernel_rfl
  g19 := by kernel_rfl
  i0 := by kernel_rfl
  i2 := by kernel_rfl
  i3 := by kernel_rfl
  i4 := by kernel_rfl
  i5 := by kernel_rfl
  i9 := by kernel_rfl
  i20 := by kernel_rfl
  i37 := by kernel_rfl
  i46 := by kernel_rfl
  i51 := by kernel_rfl
  i53 := by kernel_rfl
  i171 := by kernel_rfl
  i173 := by kernel_rfl
  i212 := by kernel_rfl
  i232 := by kernel_rfl
  i233 := by kernel_rfl
  m17 := by kernel_rfl
  m18 := by kernel_rfl
  m19 := by kernel_rfl }
open Go.RowKit Go.Sort Go.Lib in
theorem strconv_Itoa (n : Int) (h0 : -9223372036854775808 ≤ n) (h1 : n ≤ 9223372036854775807) (w : World) (htab : Lib.TabIs Tryz.prog w "internal/strconv.uint64pow10" .u64 Lib.pow10Tab) :
    Calls Tryz.prog 43 #[.int .i64 n] w fun e w' => e = .returned (.string ⟨(Lib.itoa n).toArray⟩) ∧ ∃ k os, w' = grow (w.drewN k) os := Any.strconv_Itoa laysM171 n h0 h1 w htab
def lays7_29_ren : Go.Shelf.Ren := ⟨fun | 29 => 138 | n => n, fun | 0 => 0 | 3 => 3 | 4 => 4 | 5 => 5 | 22 => 99 | 25 => 159 | 54 => 202 | n => n, fun | 1 => 3 | n => n⟩
theorem lays7_29 : Go.Proofs.Lays7.n29 Tryz.prog lays7_29_ren := {
  mixed := by kernel_rfl
  f29 := Tryz.func138.trans (congrArg some (by kernel_rfl))
  t0 := Tryz.underlying0
  a0 := Tryz.isAgg0
  z0 := Tryz.sizeOf0
  v0 := Tryz.zeroValue0
  i0 := by kernel_rfl
  t3 := Tryz.underlying3
  a3 := Tryz.isAgg3
  z3 := Tryz.sizeOf3
  v3 := Tryz.zeroValue3
  i3 := by kernel_rfl
  t4 := Tryz.underlying4
  a4 := Tryz.isAgg4
  z4 := Tryz.sizeOf4
  v4 := Tryz.zeroValue4
  i4 := by kernel_rfl
  t5 := Tryz.underlying5
  a5 := Tryz.isAgg5
  z5 := Tryz.sizeOf5
  v5 := Tryz.zeroValue5
  i5 := by kernel_rfl
  t22 := Tryz.underlying99
  a22 := Tryz.isAgg99
  z22 := Tryz.sizeOf99
  v22 := Tryz.zeroValue99
  i22 := by kernel_rfl
  t25 := Tryz.underlying159
  a25 := Tryz.isAgg159
  z25 := Tryz.sizeOf159
  v25 := Tryz.zeroValue159
  i25 := by kernel_rfl
  t54 := Tryz.underlying202
  a54 := Tryz.isAgg202
  z54 := Tryz.sizeOf202
  g1 := by kernel_rfl }
theorem bits_TrailingZeros64 (x : Nat) (hx : x < 18446744073709551616) (w : World) (hT : x ≠ 0 → TabAt 3 Lib.deBruijn64tab w) :
    Calls Tryz.prog 138 #[.int .u64 x] w fun e w' => e = .returned (.int .i64 (Lib.ctz 64 x)) ∧ w' = w := Any7.bits_TrailingZeros64 lays7_29 x hx w hT
end Go.Proofs.YtofknpknogfijaaGreatDoor



/- The hooks are sound, in every world that holds what the row lists. -/
namespace Go.Proofs.YtofknpknogfijaaGreatDoor
open Go.Ab
set_option linter.unusedVariables false

def tabZ : List Int := List.map (fun n : Nat => (n : Int)) Lib.deBruijn64tab
/-- What the package variables hold. -/
structure Facts (W : World) : Prop where
  pow : Lib.TabIs Tryz.prog W "internal/strconv.uint64pow10" .u64 Lib.pow10Tab
  deb : Lib.TabIs Tryz.prog W "math/bits.deBruijn64tab" .u8 tabZ

abbrev BW (W : World) : Base := ⟨W.heap.size, W⟩
theorem tab_at {w : World} (h : Lib.TabIs Tryz.prog w "math/bits.deBruijn64tab" .u8 tabZ) : TabAt 3 Lib.deBruijn64tab w := fun j hj => by
  have := h.cell (g := 3) (by kernel_rfl) j (by unfold tabZ; rw [List.length_map]; exact hj)
  rw [this]
  congr 2
  unfold tabZ
  rw [List.getD_eq_getElem?_getD, List.getD_eq_getElem?_getD, List.getElem?_map]
  cases Lib.deBruijn64tab[j]? <;> rfl
theorem tzHook_ok [Base] (hg : 3 < Base.B) (htab : Lib.TabIs Tryz.prog Base.W "math/bits.deBruijn64tab" .u8 tabZ) : HkOK Tryz.prog 138 tzHook where
  fn := by kernel_rfl
  len := fun args h v h' hs => by
    unfold tzHook at hs
    split at hs
    · split at hs
      · rw [frc_eq] at hs; simp only [Option.some.injEq, Prod.mk.injEq] at hs; rw [← hs.2]; exact Nat.le_refl _
      · simp at hs
    · simp at hs
  run := fun args h v h' hs β w vs hvs R hf => by
    unfold tzHook at hs
    split at hs
    · rename_i a
      split at hs
      · rename_i hp
        rw [frc_eq] at hs
        simp only [Option.some.injEq, Prod.mk.injEq] at hs
        obtain ⟨rfl, rfl⟩ := hs
        cases hvs with
        | cons k1 hvs =>
          cases hvs
          cases k1 with
          | sc k1 =>
            cases k1
            have e : a = ((a.toNat : Nat) : Int) := by omega
            have hw := tab_at ((R.var (by kernel_rfl) hg).trans htab)
            have hc := bits_TrailingZeros64 a.toNat (by omega) w fun _ => hw
            rw [← e] at hc
            refine hc.mono ?_
            rintro e w' ⟨rfl, rfl⟩
            exact ⟨β, _, rfl, .sc (.int _ _), Stp.refl _ _ _, R⟩
      · simp at hs
    · simp at hs
section
variable (W : World) (hF : Facts W)
include hF
theorem ok_itoa : @HkOK (BW W) Tryz.prog 43 itoaHook := by
  letI : Base := BW W
  exact itoaHook_ok (g := 2) (nm := "internal/strconv.uint64pow10") (by kernel_rfl) (lt_of_tab (by kernel_rfl) hF.pow) (by kernel_rfl) hF.pow fun n h1 h2 w h3 => strconv_Itoa n h1 h2 w h3
theorem ok_tz : @HkOK (BW W) Tryz.prog 138 tzHook := by
  letI : Base := BW W
  exact tzHook_ok (lt_of_tab (by kernel_rfl) hF.deb) hF.deb
/-- Without the wakening. -/
theorem HKf_ok : @HKok (BW W) Tryz.prog (@HKt ⟨false⟩) := by
  letI : Base := BW W
  intro f g h
  unfold HKt at h
  split at h
  · rename_i hf; simp only [Option.some.injEq] at h; subst hf h; exact ok_itoa W hF
  split at h
  · rename_i hf; simp only [Option.some.injEq] at h; subst hf h; exact ok_tz W hF
  split at h
  · cases h
  · exact HK0_ok f g h
theorem HKs_ok : @HKok (BW W) Tryz.prog HKs := by
  letI : Base := BW W
  letI : HB := ⟨false⟩
  intro f g h
  unfold HKs at h
  split at h
  · rename_i hf; simp only [Option.some.injEq] at h; subst hf h; exact (ok_itoa W hF).less itoaHookB_less
  split at h
  · rename_i hf; simp only [Option.some.injEq] at h; subst hf h; exact add_ok (HKf_ok W hF)
  split at h
  · rename_i hf; simp only [Option.some.injEq] at h; subst hf h; exact sub_ok (HKf_ok W hF)
  split at h
  · rename_i hf; simp only [Option.some.injEq] at h; subst hf h; exact of_ok (HKf_ok W hF)
  split at h
  · rename_i hf; simp only [Option.some.injEq] at h; subst hf h; exact inv_ok (HKf_ok W hF)
  split at h
  · rename_i hf; simp only [Option.some.injEq] at h; subst hf h; exact mul_ok (HKf_ok W hF)
  split at h
  · rename_i hf; simp only [Option.some.injEq] at h; subst hf h; exact pow_ok (HKf_ok W hF)
  split at h
  · rename_i hf; simp only [Option.some.injEq] at h; subst hf h; exact pr_ok (HKf_ok W hF)
  · exact HK0_ok f g h
theorem HKt_ok : @HKok (BW W) Tryz.prog (@HKt ⟨true⟩) := by
  letI : Base := BW W
  intro f g h
  unfold HKt at h
  split at h
  · rename_i hf; simp only [Option.some.injEq] at h; subst hf h; exact ok_itoa W hF
  split at h
  · rename_i hf; simp only [Option.some.injEq] at h; subst hf h; exact ok_tz W hF
  split at h
  · rename_i hf
    replace h : some (constHook (.sc (.bool true))) = some g := h
    simp only [Option.some.injEq] at h
    subst hf h
    exact awake_ok (HKs_ok W hF)
  · exact HK0_ok f g h
end
end Go.Proofs.YtofknpknogfijaaGreatDoor


