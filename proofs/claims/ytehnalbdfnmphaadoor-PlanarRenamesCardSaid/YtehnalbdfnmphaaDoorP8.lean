/- planar.Parse as a contract: its answer, laid anew. -/
import Derived.Test.YtehnalbdfnmphaaDoorP7
namespace Go.Proofs.YtehnalbdfnmphaaDoor
open Go.Ab
set_option linter.unusedVariables false

theorem flat_ints (xs : List Int) : ∀ x ∈ xs.map (SV.int .i64), flatV x := fun x hx => by
  obtain ⟨y, -, rfl⟩ := List.mem_map.1 hx
  trivial
theorem slc_laid {β β' : Bt} {k k' n : Nat} {c : Value} (h : SRel β (.slc k 0 n (some n)) c) (hb : β' k' = β k) : SRel β' (.slc k' 0 n (some n)) c := by
  cases h with
  | slc hL hc hl ho hb' hn => exact .slc (hb.trans hL) hc hl ho hb' hn
theorem parseHook_ok [Base] (hk : HKok Tryd.prog HKp) : HkOK Tryd.prog 22 parseHook where
  fn := by kernel_rfl
  len := fun args h v h' hs => by
    unfold parseHook at hs
    split at hs
    · split at hs
      · simp at hs; rw [← hs.2]; exact Nat.le_refl _
      · simp at hs; rw [← hs.2]; simp
    · simp at hs
  run := fun args h v h' hs β w vs hvs R hf => by
    unfold parseHook at hs
    split at hs
    · rename_i b
      cases hvs with
      | cons h1 hvs =>
        cases hvs
        cases h1 with
        | sc h1 =>
          cases h1
          have hrun := rw_apart (w := w) ft_ok (f := 22) (F := a22) rfl (args := [.sc (.str b)]) (vs := [.string b]) rfl R.keep (.cons (.sc (.str b)) .nil) (fun n => parse_rw hk b.data.toList n)
          unfold OwnRun at hrun
          refine hrun.mono ?_
          rintro e w' ⟨β1, h1, v1, c, rfl, hQ, hA, R1, q1, q2, q3, q4, q5, q6, q7⟩
          generalize parR b.data.toList = res at hs hQ
          cases res with
          | err e =>
            simp only [Option.some.injEq, Prod.mk.injEq] at hs
            obtain ⟨rfl, rfl⟩ := hs
            obtain rfl : v1 = _ := hQ
            refine ⟨β, c, rfl, ?_, ⟨fun _ _ h => h, fun _ _ h => .inl h, fun id h1 h2 => by omega, Nat.le_refl _, fun b hb => .inr hb, fun id L h1 h2 => by rw [h1] at h2; simp at h2, fun b hb _ => q3 b hb, q4, q5, q6, q7⟩, rep_later R q3⟩
            cases hA with
            | tup hA => cases hA with
              | cons a1 hA => cases hA with
                | cons a2 hA =>
                  cases hA
                  cases a1 with
                  | agg a1 => cases a1 with
                    | cons b1 a1 => cases a1 with
                      | cons b2 a1 => cases a1 with
                        | cons b3 a1 =>
                          cases a1
                          cases a2 with
                          | sc a2 =>
                            cases b1; cases b2; cases b3; cases a2
                            exact .tup (.cons (.agg (.cons .nilS (.cons .nilS (.cons (.int _ _) .nil)))) (.cons (.sc (.int _ _)) .nil))
          | ok xs ms l =>
            simp only [Option.some.injEq, Prod.mk.injEq] at hs
            obtain ⟨rfl, rfl⟩ := hs
            obtain ⟨k1, k2, hne, rfl, g1, g2⟩ := hQ
            obtain ⟨s1, s2⟩ := laid (bs := [(xs.map (.int .i64), 1), (ms.map (.int .i64), 1)]) R R1 q1 q2 q3 q4 q5 q6 q7 [k1, k2] (by simp [hne]) rfl (fun j id hj => by
              match j, hj with
              | 0, hj => cases hj; exact ⟨_, rfl, g1, (by decide : (1 : ESz).n < 1000000), flat_ints xs⟩
              | 1, hj => cases hj; exact ⟨_, rfl, g2, (by decide : (1 : ESz).n < 1000000), flat_ints ms⟩
              | j + 2, hj => simp at hj) hf
            refine ⟨_, c, rfl, ?_, s1, s2⟩
            cases hA with
            | tup hA => cases hA with
              | cons a1 hA => cases hA with
                | cons a2 hA =>
                  cases hA
                  cases a1 with
                  | agg a1 => cases a1 with
                    | cons b1 a1 => cases a1 with
                      | cons b2 a1 => cases a1 with
                        | cons b3 a1 =>
                          cases a1
                          cases a2 with
                          | sc a2 =>
                            cases b3; cases a2
                            exact .tup (.cons (.agg (.cons (slc_laid b1 (layB_new (j := 0) (by simp))) (.cons (slc_laid b2 (layB_new (j := 1) (by simp))) (.cons (.int _ _) .nil)))) (.cons (.sc (.int _ _)) .nil))
    · simp at hs
end Go.Proofs.YtehnalbdfnmphaaDoor
