/- planar.Parse as a contract: its answer, laid anew. -/
import Derived.Test.YtehnalbdfnmphaaDoorP7
import Derived.Shelf.Lays
import Derived.Shelf.LaysM
import Derived.Shelf.Strconv.Itoa3
import Derived.Shelf.Strings.Cut
import Derived.Test.YtehnalbdfnmphaaDoorProg
import Derived.Test.YtehnalbdfnmphaaDoorQ1
import Derived.Test.YtehnalbdfnmphaaDoorAb32
namespace Go.Proofs.YtehnalbdfnmphaaDoor
open Go.Ab
set_option linter.unusedVariables false

theorem flat_ints (xs : List Int) : ∀ x ∈ xs.map (SV.int .i64), flatV x := fun x hx => by
  obtain ⟨y, -, rfl⟩ := List.mem_map.1 hx
  trivial
theorem slc_laid {β β' : Bt} {k k' n : Nat} {c : Value} (h : SRel β (.slc k 0 n (some n)) c) (hb : β' k' = β k) : SRel β' (.slc k' 0 n (some n)) c := by
  cases h with
  | slc hL hc hl ho hb' hn => exact .slc (hb.trans hL) hc hl ho hb' hn
theorem parseHook_ok [Base] (hk : HKok Tryd.prog HKp) : HkOK Tryd.prog 22 parseHook where
  fn := by kernel_rfl
  len := fun args h v h' hs => by
    unfold parseHook at hs
    split at hs
    · split at hs
      · simp at hs; rw [← hs.2]; exact Nat.le_refl _
      · simp at hs; rw [← hs.2]; simp
    · simp at hs
  run := fun args h v h' hs β w vs hvs R hf => by
    unfold parseHook at hs
    split at hs
    · rename_i b
      cases hvs with
      | cons h1 hvs =>
        cases hvs
        cases h1 with
        | sc h1 =>
          cases h1
          have hrun := rw_apart (w := w) ft_ok (f := 22) (F := a22) rfl (args := [.sc (.str b)]) (vs := [.string b]) rfl R.keep (.cons (.sc (.str b)) .nil) (fun n => parse_rw hk b.data.toList n)
          unfold OwnRun at hrun
          refine hrun.mono ?_
          rintro e w' ⟨β1, h1, v1, c, rfl, hQ, hA, R1, q1, q2, q3, q4, q5, q6, q7⟩
          generalize parR b.data.toList = res at hs hQ
          cases res with
          | err e =>
            simp only [Option.some.injEq, Prod.mk.injEq] at hs
            obtain ⟨rfl, rfl⟩ := hs
            obtain rfl : v1 = _ := hQ
            refine ⟨β, c, rfl, ?_, ⟨fun _ _ h => h, fun _ _ h => .inl h, fun id h1 h2 => by omega, Nat.le_refl _, fun b hb => .inr hb, fun id L h1 h2 => by rw [h1] at h2; simp at h2, fun b hb _ => q3 b hb, q4, q5, q6, q7⟩, rep_later R q3⟩
            cases hA with
            | tup hA => cases hA with
              | cons a1 hA => cases hA with
                | cons a2 hA =>
                  cases hA
                  cases a1 with
                  | agg a1 => cases a1 with
                    | cons b1 a1 => cases a1 with
                      | cons b2 a1 => cases a1 with
                        | cons b3 a1 =>
                          cases a1
                          cases a2 with
                          | sc a2 =>
                            cases b1; cases b2; cases b3; cases a2
                            exact .tup (.cons (.agg (.cons .nilS (.cons .nilS (.cons (.int _ _) .nil)))) (.cons (.sc (.int _ _)) .nil))
          | ok xs ms l =>
            simp only [Option.some.injEq, Prod.mk.injEq] at hs
            obtain ⟨rfl, rfl⟩ := hs
            obtain ⟨k1, k2, hne, rfl, g1, g2⟩ := hQ
            obtain ⟨s1, s2⟩ := laid (bs := [(xs.map (.int .i64), 1), (ms.map (.int .i64), 1)]) R R1 q1 q2 q3 q4 q5 q6 q7 [k1, k2] (by simp [hne]) rfl (fun j id hj => by
              match j, hj with
              | 0, hj => cases hj; exact ⟨_, rfl, g1, (by decide : (1 : ESz).n < 1000000), flat_ints xs⟩
              | 1, hj => cases hj; exact ⟨_, rfl, g2, (by decide : (1 : ESz).n < 1000000), flat_ints ms⟩
              | j + 2, hj => simp at hj) hf
            refine ⟨_, c, rfl, ?_, s1, s2⟩
            cases hA with
            | tup hA => cases hA with
              | cons a1 hA => cases hA with
                | cons a2 hA =>
                  cases hA
                  cases a1 with
                  | agg a1 => cases a1 with
                    | cons b1 a1 => cases a1 with
                      | cons b2 a1 => cases a1 with
                        | cons b3 a1 =>
                          cases a1
                          cases a2 with
                          | sc a2 =>
                            cases b3; cases a2
                            exact .tup (.cons (.agg (.cons (slc_laid b1 (layB_new (j := 0) (by simp))) (.cons (slc_laid b2 (layB_new (j := 1) (by simp))) (.cons (.int _ _) .nil)))) (.cons (.sc (.int _ _)) .nil))
    · simp at hs
end Go.Proofs.YtehnalbdfnmphaaDoor


namespace Go.Proofs.YtehnalbdfnmphaaDoor
open Go.Shelf
def laysM171_ren : Go.Shelf.Ren := ⟨fun | 171 => 26 | 243 => 54 | 246 => 72 | 283 => 89 | 284 => 90 | 285 => 91 | 286 => 92 | 129 => 104 | 317 => 103 | 318 => 105 | 319 => 106 | 320 => 107 | 337 => 112 | 338 => 113 | n => n, fun | 3 => 3 | 9 => 9 | 2 => 2 | 4 => 4 | 171 => 119 | 0 => 0 | 53 => 120 | 37 => 31 | 5 => 5 | 173 => 123 | 212 => 134 | 51 => 135 | 20 => 20 | 213 => 136 | 46 => 127 | 232 => 149 | 233 => 150 | n => n, fun | 17 => 3 | 18 => 6 | 19 => 7 | n => n⟩
theorem laysM171 : Go.Proofs.LaysM.n171 Tryd.prog laysM171_ren := {
  mixed := by kernel_rfl
  f129 := Tryd.func104.trans (congrArg some (by kernel_rfl))
  f171 := Tryd.func26.trans (congrArg some (by kernel_rfl))
  f243 := Tryd.func54.trans (congrArg some (by kernel_rfl))
  f246 := Tryd.func72.trans (congrArg some (by kernel_rfl))
  f283 := Tryd.func89.trans (congrArg some (by kernel_rfl))
  f284 := Tryd.func90.trans (congrArg some (by kernel_rfl))
  f285 := Tryd.func91.trans (congrArg some (by kernel_rfl))
  f286 := Tryd.func92.trans (congrArg some (by kernel_rfl))
  f317 := Tryd.func103.trans (congrArg some (by kernel_rfl))
  f318 := Tryd.func105.trans (congrArg some (by kernel_rfl))
  f319 := Tryd.func106.trans (congrArg some (by kernel_rfl))
  f320 := Tryd.func107.trans (congrArg some (by kernel_rfl))
  f337 := Tryd.func112.trans (congrArg some (by kernel_rfl))
  f338 := Tryd.func113.trans (congrArg some (by kernel_rfl))
  t0 := Tryd.underlying0
  a0 := Tryd.isAgg0
  z0 := Tryd.sizeOf0
  v0 := Tryd.zeroValue0
  t2 := Tryd.underlying2
  a2 := Tryd.isAgg2
  z2 := Tryd.sizeOf2
  v2 := Tryd.zeroValue2
  t3 := Tryd.underlying3
  a3 := Tryd.isAgg3
  z3 := Tryd.sizeOf3
  v3 := Tryd.zeroValue3
  t4 := Tryd.underlying4
  a4 := Tryd.isAgg4
  z4 := Tryd.sizeOf4
  v4 := Tryd.zeroValue4
  t5 := Tryd.underlying5
  a5 := Tryd.isAgg5
  z5 := Tryd.sizeOf5
  v5 := Tryd.zeroValue5
  t9 := Tryd.underlying9
  a9 := Tryd.isAgg9
  z9 := Tryd.sizeOf9
  v9 := Tryd.zeroValue9
  t20 := Tryd.underlying20
  a20 := Tryd.isAgg20
  z20 := Tryd.sizeOf20
  v20 := Tryd.zeroValue20
  t37 := Tryd.underlying31
  a37 := Tryd.isAgg31
  z37 := Tryd.sizeOf31
  v37 := Tryd.zeroValue31
  t46 := Tryd.underlying127
  a46 := Tryd.isAgg127
  z46 := Tryd.sizeOf127
  v46 := Tryd.zeroValue127
  t51 := Tryd.underlying135
  a51 := Tryd.isAgg135
  z51 := Tryd.sizeOf135
  v51 := Tryd.zeroValue135
  t53 := Tryd.underlying120
  a53 := Tryd.isAgg120
  z53 := Tryd.sizeOf120
  v53 := Tryd.zeroValue120
  t171 := Tryd.underlying119
  a171 := Tryd.isAgg119
  z171 := Tryd.sizeOf119
  v171 := Tryd.zeroValue119
  t173 := Tryd.underlying123
  a173 := Tryd.isAgg123
  z173 := Tryd.sizeOf123
  v173 := Tryd.zeroValue123
  t212 := Tryd.underlying134
  a212 := Tryd.isAgg134
  z212 := Tryd.sizeOf134
  v212 := Tryd.zeroValue134
  t213 := Tryd.underlying136
  a213 := Tryd.isAgg136
  z213 := Tryd.sizeOf136
  t232 := Tryd.underlying149
  a232 := Tryd.isAgg149
  z232 := Tryd.sizeOf149
  v232 := Tryd.zeroValue149
  t233 := Tryd.underlying150
  a233 := Tryd.isAgg150
  z233 := Tryd.sizeOf150
  v233 := Tryd.zeroValue150
  g17 := by kernel_rfl
  g18 := by kernel_rfl
  g19 := by kernel_rfl
  i0 := by kernel_rfl
  i2 := by kernel_rfl
  i3 := by kernel_rfl
  i4 := by kernel_rfl
  i5 := by kernel_rfl
  i9 := by kernel_rfl
  i20 := by kernel_rfl
  i37 := by kernel_rfl
  i46 := by kernel_rfl
  i51 := by kernel_rfl
  i53 := by kernel_rfl
  i171 := by kernel_rfl
  i173 := by kernel_rfl
  i212 := by kernel_rfl
  i232 := by kernel_rfl
  i233 := by kernel_rfl
  m17 := by kernel_rfl
  m18 := by kernel_rfl
  m19 := by kernel_rfl }
open Go.RowKit Go.Sort Go.Lib in
theorem strconv_Itoa (n : Int) (h0 : -9223372036854775808 ≤ n) (h1 : n ≤ 9223372036854775807) (w : World) (htab : Lib.TabIs Tryd.prog w "internal/strconv.uint64pow10" .u64 Lib.pow10Tab) :
    Calls Tryd.prog 26 #[.int .i64 n] w fun e w' => e = .returned (.string ⟨(Lib.itoa n).toArray⟩) ∧ ∃ k os, w' = grow (w.drewN k) os := Any.strconv_Itoa laysM171 n h0 h1 w htab
def lays145_ren : Go.Shelf.Ren := ⟨fun | 145 => 64 | 220 => 83 | 219 => 88 | 217 => 99 | 225 => 100 | 224 => 101 | 267 => 102 | 266 => 110 | 314 => 111 | n => n, fun | 9 => 9 | 4 => 4 | 59 => 94 | 3 => 3 | 5 => 5 | 46 => 127 | 146 => 146 | 51 => 135 | n => n, fun | 1 => 2 | n => n⟩
theorem lays145 : Go.Proofs.Lays.n145 Tryd.prog lays145_ren := {
  mixed := by kernel_rfl
  f145 := Tryd.func64.trans (congrArg some (by kernel_rfl))
  f217 := Tryd.func99.trans (congrArg some (by kernel_rfl))
  f219 := Tryd.func88.trans (congrArg some (by kernel_rfl))
  f220 := Tryd.func83.trans (congrArg some (by kernel_rfl))
  f224 := Tryd.func101.trans (congrArg some (by kernel_rfl))
  f225 := Tryd.func100.trans (congrArg some (by kernel_rfl))
  f266 := Tryd.func110.trans (congrArg some (by kernel_rfl))
  f267 := Tryd.func102.trans (congrArg some (by kernel_rfl))
  f314 := Tryd.func111.trans (congrArg some (by kernel_rfl))
  t3 := Tryd.underlying3
  a3 := Tryd.isAgg3
  z3 := Tryd.sizeOf3
  v3 := Tryd.zeroValue3
  t4 := Tryd.underlying4
  a4 := Tryd.isAgg4
  z4 := Tryd.sizeOf4
  v4 := Tryd.zeroValue4
  t5 := Tryd.underlying5
  a5 := Tryd.isAgg5
  z5 := Tryd.sizeOf5
  v5 := Tryd.zeroValue5
  t9 := Tryd.underlying9
  a9 := Tryd.isAgg9
  z9 := Tryd.sizeOf9
  v9 := Tryd.zeroValue9
  t46 := Tryd.underlying127
  a46 := Tryd.isAgg127
  z46 := Tryd.sizeOf127
  v46 := Tryd.zeroValue127
  t51 := Tryd.underlying135
  a51 := Tryd.isAgg135
  z51 := Tryd.sizeOf135
  v51 := Tryd.zeroValue135
  t59 := Tryd.underlying94
  a59 := Tryd.isAgg94
  z59 := Tryd.sizeOf94
  v59 := Tryd.zeroValue94
  t146 := Tryd.underlying146
  a146 := Tryd.isAgg146
  z146 := Tryd.sizeOf146
  v146 := Tryd.zeroValue146
  g1 := by kernel_rfl }
open Go.RowKit Go.Lib in
theorem strings_Cut (s sep : ByteArray) (m : Int) (w : World) (hs : s.size < 4294967281) (hm : w.cell? ⟨2, 0, none⟩ = some (.int .i64 m)) :
    Calls Tryd.prog 64 #[.string s, .string sep] w fun e w' => e = .returned (.tuple #[.string ⟨(Lib.cut s.data.toList sep.data.toList).1.toArray⟩, .string ⟨(Lib.cut s.data.toList sep.data.toList).2.1.toArray⟩, .bool (Lib.cut s.data.toList sep.data.toList).2.2]) ∧ ∃ n, w' = w.drewN n := Any.strings_Cut lays145 s sep m w hs hm
end Go.Proofs.YtehnalbdfnmphaaDoor



/- The hooks are sound, in every world that holds what the row lists. -/
namespace Go.Proofs.YtehnalbdfnmphaaDoor
open Go.Ab
set_option linter.unusedVariables false

/-- What the package variables hold. -/
structure Facts (W : World) : Prop where
  pow : Lib.TabIs Tryd.prog W "internal/strconv.uint64pow10" .u64 Lib.pow10Tab
  mxl : ∃ m, W.cell? ⟨2, 0, none⟩ = some (.int .i64 m)

abbrev BW (W : World) : Base := ⟨W.heap.size, W⟩
section
variable (W : World) (hF : Facts W)
include hF
theorem ok_itoa : @HkOK (BW W) Tryd.prog 26 itoaHook := by
  letI : Base := BW W
  exact itoaHook_ok (g := 3) (nm := "internal/strconv.uint64pow10") (by kernel_rfl) (lt_of_tab (by kernel_rfl) hF.pow) (by kernel_rfl) hF.pow fun n h1 h2 w h3 => strconv_Itoa n h1 h2 w h3
theorem HKs_ok : @HKok (BW W) Tryd.prog HKs := by
  letI : Base := BW W
  intro f g h
  unfold HKs at h
  split at h
  · rename_i hf; simp only [Option.some.injEq] at h; subst hf h; exact (ok_itoa W hF).less itoaHookA_less
  · exact HK0_ok f g h
theorem ok_cut : @HkOK (BW W) Tryd.prog 64 cutHook := by
  letI : Base := BW W
  obtain ⟨m, hm⟩ := hF.mxl
  exact cutHook_ok (g := 2) (by kernel_rfl) (lt_of_cell hm) ⟨m, hm⟩ fun s sep m w h1 h2 => strings_Cut s sep m w h1 h2
theorem HKp_ok : @HKok (BW W) Tryd.prog HKp := by
  letI : Base := BW W
  intro f g h
  unfold HKp at h
  split at h
  · cases h
  rename_i h22
  unfold HKt at h
  split at h
  · rename_i hf; simp only [Option.some.injEq] at h; subst hf h; exact ok_itoa W hF
  split at h
  · rename_i hf; simp only [Option.some.injEq] at h; subst hf h; exact awake_ok (HKs_ok W hF)
  split at h
  · rename_i hf; simp only [Option.some.injEq] at h; subst hf h; exact ok_cut W hF
  · exact HK0_ok f g h
theorem HKt_ok : @HKok (BW W) Tryd.prog HKt := by
  letI : Base := BW W
  intro f g h
  unfold HKt at h
  split at h
  · rename_i hf; simp only [Option.some.injEq] at h; subst hf h; exact ok_itoa W hF
  split at h
  · rename_i hf; simp only [Option.some.injEq] at h; subst hf h; exact awake_ok (HKs_ok W hF)
  split at h
  · rename_i hf; simp only [Option.some.injEq] at h; subst hf h; exact parseHook_ok (HKp_ok W hF)
  split at h
  · rename_i hf; simp only [Option.some.injEq] at h; subst hf h; exact ok_cut W hF
  · exact HK0_ok f g h
end
end Go.Proofs.YtehnalbdfnmphaaDoor


