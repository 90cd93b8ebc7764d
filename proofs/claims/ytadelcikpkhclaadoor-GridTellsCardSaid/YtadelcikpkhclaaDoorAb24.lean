/- strings.Builder's check against copies, as a contract. -/
import Derived.Test.YtadelcikpkhclaaDoorAb23
import Derived.Lib.Builder
namespace Go.Ab
set_option linter.unusedVariables false

/-- copyCheck: a fresh builder takes its own address; a used one stays as it is. -/
def ccHook (T : Nat) : Hook := fun args h => match args with
  | [.sc (.ptr id 0)] => match h[id]? with
    | some (.cells [.nilP, x] true z) => if z = ⟨0, some T⟩ then some (.tup [], h.set id (.cells [.ptr id 0, x] true z)) else none
    | some (.cells [.ptr j 0, x] true z) => if z = ⟨0, some T⟩ ∧ j = id then some (.tup [], h) else none
    | _ => none
  | _ => none

theorem ccHook_ok {P : Program} {f : FuncId} {T : Nat} (hfn : fnIs P f = true)
    (hu : ∀ (b : Nat) (w : World), w.cell? ⟨b, 0, none⟩ = some (.pointer (some ⟨b, 0, none⟩)) → Calls P f #[.pointer (some ⟨b, 0, none⟩)] w fun e w' => e = .returned (.tuple #[]) ∧ w' = w)
    (hn : ∀ (b : Nat) (w : World), w.cell? ⟨b, 0, none⟩ = some (.pointer none) → w.shape? b = some (T, 2) → w.frozen? ⟨b, 0, none⟩ = false →
      Calls P f #[.pointer (some ⟨b, 0, none⟩)] w fun e w' => e = .returned (.tuple #[]) ∧ w' = w.setCell ⟨b, 0, none⟩ (.pointer (some ⟨b, 0, none⟩))) : HkOK P f (ccHook T) where
  fn := hfn
  len := fun args h v h' hs => by
    unfold ccHook at hs
    split at hs
    · split at hs
      · split at hs
        · simp at hs; rw [← hs.2]; simp
        · simp at hs
      · split at hs
        · simp at hs; rw [hs.2]; exact Nat.le_refl _
        · simp at hs
      · simp at hs
    · simp at hs
  run := fun args h v h' hs β w vs hvs R hf => by
    unfold ccHook at hs
    split at hs
    · rename_i id
      cases hvs with
      | cons ha hr =>
        cases hr
        cases ha with
        | sc ha =>
          cases ha with
          | ptr hL =>
            rename_i L
            split at hs
            · rename_i x z hg
              split at hs
              · rename_i hz
                subst hz
                simp at hs
                obtain ⟨rfl, rfl⟩ := hs
                obtain ⟨h1, ccs, e, fz, h2, h3, h4, h5, h6, h7, h8⟩ := R.blk id L _ true _ hg hL
                obtain ⟨hb0, hsz⟩ := h8 T rfl
                replace hsz := hsz rfl
                have he : e = T := h7 T rfl
                have hfz := h6 rfl
                subst he hfz
                simp at hsz
                obtain ⟨c0, k1, k2⟩ := h5 0 .nilP rfl
                cases k2
                rw [hb0] at k1
                have hc : w.cell? ⟨L.b, 0, none⟩ = some (.pointer none) := by rw [cell_of_row w L.b _ ccs e _ h2]; exact k1
                have hfr : w.frozen? ⟨L.b, 0, none⟩ = false := by simp [World.frozen?, h2]
                have hw : writeN h id 0 [.ptr id 0] = some (h.set id (.cells [.ptr id 0, x] true ⟨0, some e⟩)) := by
                  simp [writeN, hg, splice]
                obtain ⟨w1, s1, s2, s3⟩ := store_done (P := P) R hL (vs := [.ptr id 0]) (ws := [.pointer (some ⟨L.b, L.base + 0, none⟩)]) (.cons (.ptr hL) .nil) hw
                rw [hb0] at s1
                have hrun : (storeCells ⟨L.b, 0 + 0, none⟩ [.pointer (some ⟨L.b, 0 + 0, none⟩)]).run P w = .ok () (w.setCell ⟨L.b, 0, none⟩ (.pointer (some ⟨L.b, 0, none⟩))) := by
                  have ha : (⟨L.b, 0, none⟩ : Addr).add 0 = ⟨L.b, 0, none⟩ := rfl
                  have hst := run_store P w ⟨L.b, 0, none⟩ (.pointer (some ⟨L.b, 0, none⟩)) .plain rfl
                  rw [hc] at hst
                  simp only [hfr, Bool.false_eq_true, if_false] at hst
                  simp [storeCells, ha, hst]
                rw [hrun] at s1
                simp only [Result.ok.injEq, true_and] at s1
                rw [hb0]
                refine (hn L.b w hc (by simp [World.shape?, h2]; omega) hfr).mono ?_
                rintro e' w' ⟨rfl, rfl⟩
                rw [s1]
                exact ⟨β, _, rfl, .tup .nil, s2, s3⟩
              · simp at hs
            · rename_i j x z hg
              split at hs
              · rename_i hz
                obtain ⟨rfl, rfl⟩ := hz
                simp at hs
                obtain ⟨rfl, rfl⟩ := hs
                obtain ⟨h1, ccs, e, fz, h2, h3, h4, h5, h6, h7, h8⟩ := R.blk _ L _ true _ hg hL
                obtain ⟨hb0, hsz⟩ := h8 T rfl
                obtain ⟨c0, k1, k2⟩ := h5 0 _ rfl
                cases k2 with
                | ptr hM =>
                  rw [hL] at hM
                  simp at hM; subst hM
                  rw [hb0] at k1
                  have hc : w.cell? ⟨L.b, 0, none⟩ = some (.pointer (some ⟨L.b, 0, none⟩)) := by rw [cell_of_row w L.b _ ccs e _ h2]; exact k1
                  rw [hb0]
                  refine (hu L.b w hc).mono ?_
                  rintro e' w' ⟨rfl, rfl⟩
                  exact ⟨β, _, rfl, .tup .nil, Stp.refl _ _ _, R⟩
              · simp at hs
            · simp at hs
    · simp at hs

def isT : Option (AV × Heap) → Bool
  | some (.sc (.bool b), _) => b
  | _ => false

theorem isT_some {o : Option (AV × Heap)} (h : isT o = true) : ∃ h', o = some (.sc (.bool true), h') := by
  unfold isT at h
  split at h
  · subst h; exact ⟨_, rfl⟩
  · simp at h
end Go.Ab
