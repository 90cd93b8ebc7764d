/- Substitute as a contract: it does what its hook says. -/
import Derived.Test.YtgmfjhmphiiifaaDoorSB6
namespace Go.Proofs.YtgmfjhmphiiifaaDoor
open Go.RowKit Go.Shelf Go.Ab
set_option linter.unusedVariables false
set_option linter.unusedSectionVars false

theorem subRes_len (h : Heap) (imgs : List (List Int)) (xs : List Int) : h.length ≤ (subRes h imgs xs).2.length := by
  unfold subRes
  split
  · split
    · exact Nat.le_refl _
    · simp
  · exact Nat.le_refl _
section
variable [Base]
theorem subHook_ok : HkOK Tryd.prog 25 subHook where
  fn := by kernel_rfl
  len := fun args h v h' hs => by
    unfold subHook at hs
    split at hs
    · split at hs
      · have e := congrArg Prod.snd (Option.some.inj hs)
        show h.length ≤ ((v, h').2 : Heap).length
        rw [← e]
        exact subRes_len _ _ _
      · cases hs
    · cases hs
  run := fun args h v h' hs β w vs hvs R hf => by
    unfold subHook at hs
    split at hs
    · rename_i sw si
      split at hs
      · rename_i hin
        have hs := Option.some.inj hs
        cases hvs with
        | cons ha hr =>
          cases hr with
          | cons hb hr =>
            cases hr
            cases ha with
            | sc ha =>
              cases hb with
              | sc hb =>
                rename_i vw vi
                have hl : (decs h si).length = (imgsOf h si).length := by simp [imgsOf]
                have hall : ∀ (i : Nat) (t : SV) (ys : List Int), (decs h si)[i]? = some t → (imgsOf h si)[i]? = some ys → IsInts h t ys ∧ (ys.length ≤ 1000 ∧ ∀ y ∈ ys, -1000000000000 ≤ y ∧ y ≤ 1000000000000) := fun i t ys h1 h2 => by
                  have : ys = dec h t := by
                    simp only [imgsOf, List.getElem?_map, h1, Option.map_some, Option.some.injEq] at h2
                    exact h2.symm
                  subst this
                  have hm := List.mem_of_getElem? h1
                  exact ⟨hin.r t hm, hin.b3 t hm⟩
                have hwf : ∀ y : Int, -9223372036854775808 ≤ y → y ≤ 9223372036854775807 → (Lit.int .i64 y).wf = true := fun y h1 h2 => by simp [Lit.wf]; exact ⟨h1, h2⟩
                have c1 := csok_of R ha hin.w hin.b1.2
                have c2 := csok_img R hb hin.i hl fun i t ys h1 h2 => ⟨(hall i t ys h1 h2).1, fun y hy => by have := (hall i t ys h1 h2).2.2 y hy; exact hwf y (by omega) (by omega)⟩
                obtain ⟨Ls, hR, ss, q1, q2, q3, l1, l2, rfl, q4, q5⟩ := (c1.app c2).top
                have hRR := rep_argsR q1 R.keep q3
                have rm : RM (fun id => Ls[id]?) hR w := ⟨hRR, fun id hid => List.getElem?_eq_none (by omega), fun id cs rw z hg => by
                  obtain ⟨L, hL⟩ : ∃ L, Ls[id]? = some L := ⟨_, List.getElem?_eq_getElem (by rw [q1]; exact (List.getElem?_eq_some_iff.1 hg).1)⟩
                  have A := q3 id L _ hL hg
                  exact ⟨(A.cells cs rw z rfl).1, A.ty.2⟩⟩
                obtain ⟨s1, rfl, p1⟩ := RIs.ok q4
                obtain ⟨s2, rfl, p2⟩ := RVs.ok q5
                cases q2 with
                | cons g1 q2 =>
                  cases q2 with
                  | cons g2 q2 =>
                    obtain ⟨aw, cw, rfl, hLw⟩ := lies_ints hRR g1 p1
                    obtain ⟨aI, cI, rfl, hLi⟩ := imgs_of hRR g2 p2
                    have b3 : ∀ ys ∈ imgsOf h si, ys.length ≤ 1000 ∧ ∀ y ∈ ys, -1000000000000 ≤ y ∧ y ≤ 1000000000000 := fun ys hy => by
                      obtain ⟨t, ht, rfl⟩ := List.mem_map.1 hy
                      exact hin.b3 t ht
                    have b4 : ∀ x ∈ dec h sw, -9223372036854775808 ≤ x ∧ x ≤ 9223372036854775807 := fun x hx => int_range (hin.b1.2 x hx)
                    refine (callsIn_wide.1 (sub_in 3 (Nat.le_refl _) aw aI cw cI (dec h sw) (imgsOf h si) w rm R.keep.1 hLw hLi hin.b1.1 (by rw [← hl]; exact hin.b2) b3 b4)).mono ?_
                    rintro e w' ⟨c, er, rfl, hB, h5⟩
                    have hR' : Rep β h w' := rep_later R (fun b hb => hB.block b hb)
                    rcases h5 with ⟨h6, rfl, rfl⟩ | ⟨h6, rfl, cb, h7⟩
                    · unfold subRes at hs
                      rw [if_neg h6] at hs
                      cases hs
                      exact ⟨β, _, rfl, .tup (.cons (.sc .nilS) (.cons (.sc (.int _ _)) .nil)), stp_below0 hB, hR'⟩
                    · unfold subRes at hs
                      rw [if_pos h6] at hs
                      rcases h7 with ⟨h8, rfl⟩ | ⟨h8, L, ccs, e, ad, cp, k1, k2, k3, k4, k5, k6, k7, rfl, k8, k9, k10⟩
                      · rw [if_pos h8] at hs
                        cases hs
                        exact ⟨β, _, rfl, .tup (.cons (.sc .nilS) (.cons (.sc (.int _ _)) .nil)), stp_below0 hB, hR'⟩
                      · rw [if_neg h8] at hs
                        cases hs
                        have hf1 : β h.length = none := hf.one
                        have hle := upd_le (β := β) L hf1
                        have lt : ∀ (i : Nat) (x : Blk), h[i]? = some x → i < h.length := fun i x hx => (List.getElem?_eq_some_iff.1 hx).1
                        have hold : ∀ i, i < h.length → upd β h.length L i = β i := fun i hi => upd_other _ _ (by omega)
                        refine ⟨upd β h.length L, _, rfl, .tup (.cons (.sc ?_) (.cons (.sc (.int _ _)) .nil)), ?_, rep_one hR' hf1 k1 (fun _ => Nat.le_trans R.keep.1 k2) k4 k5 k6 k7 fun id M cs rw z h1 h2 h3 => ?_⟩
                        · exact .slc (upd_same _ _ _) (fun k hk => by cases hk) k8 (fun h => by rw [Nat.add_zero]; exact k9 h) (fun h => by rw [k1]; exact ⟨by decide, by have := k10 h; show L.base + 0 + cp * 1 ≤ L.sz; omega⟩) (by rw [k1]; decide)
                        · refine ⟨hle, ?_, ?_, by simp, ?_, ?_, fun b hb _ => hB.block b hb, hB.size, hB.os, hB.tape, hB.output⟩
                          · intro i M hl
                            by_cases hi : i = h.length
                            · exact .inr (by simp; omega)
                            · exact .inl (by rwa [upd_other _ _ hi] at hl)
                          · intro i h1 h2
                            have : i = h.length := by simp at h2; omega
                            subst this
                            exact ⟨_, upd_same _ _ _⟩
                          · rintro b ⟨i, M, cs', esz', hg, hL', rfl⟩
                            rw [get_snoc] at hg
                            split at hg
                            · rename_i hi; subst hi; rw [upd_same] at hL'; simp at hL'; subst hL'; exact .inl k2
                            · rw [hold i (lt _ _ hg)] at hL'
                              exact .inr ⟨i, M, cs', esz', hg, hL', rfl⟩
                          · intro i M h1 h2
                            by_cases hi : i = h.length
                            · subst hi; rw [upd_same] at h1; simp at h1; subst h1; exact .inl k2
                            · rw [upd_other _ _ hi, h2] at h1; simp at h1
                        · have := (R.blk id M cs rw z h1 h2).lt
                          omega
      · cases hs
    · cases hs
noncomputable def HK2 : FuncId → Option Hook := fun f => if f = 25 then some subHook else HK1 f
theorem HK2_ok : HKok Tryd.prog HK2 := fun f g h => by
  unfold HK2 at h
  split at h
  · rename_i hf
    simp only [Option.some.injEq] at h
    subst hf h
    exact subHook_ok
  · exact HK1_ok f g h
end
theorem awake_call2 (h : Heap) : ∃ v h', Cal FT HK2 12 [] h v h' ∧ v = .sc (.bool true) ∧ h' = h := ⟨_, _, Cal.hook (g := constHook (.sc (.bool true))) (by unfold HK2; rw [if_neg (by decide)]; rfl) rfl, rfl, rfl⟩
end Go.Proofs.YtgmfjhmphiiifaaDoor
