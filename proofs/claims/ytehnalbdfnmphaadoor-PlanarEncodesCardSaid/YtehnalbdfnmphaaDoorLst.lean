/- Two facts about lists. -/
import Derived.Test.YtehnalbdfnmphaaDoorCode
import Derived.Test.YtehnalbdfnmphaaDoorAb35
namespace Go.Proofs.YtehnalbdfnmphaaDoor
open Go.Ab
theorem take_snoc {α : Type} {xs : List α} {i : Nat} {x : α} (hx : xs[i]? = some x) : xs.take (i + 1) = xs.take i ++ [x] := by
  rw [List.take_add_one, hx]; rfl

theorem fit_len : ∀ {ys T : List Nat}, ys.Nodup → (∀ y ∈ ys, y ∈ T) → ys.length ≤ T.length
  | [], _, _, _ => by simp
  | y :: ys, T, hn, hs => by
    have hy := hs y (by simp)
    have h1 : ∀ z ∈ ys, z ∈ T.erase y := fun z hz => by
      have hne : z ≠ y := fun he => by subst he; exact (List.nodup_cons.1 hn).1 hz
      exact (List.mem_erase_of_ne hne).2 (hs z (by simp [hz]))
    have h2 := fit_len (List.nodup_cons.1 hn).2 h1
    rw [List.length_erase_of_mem hy] at h2
    have := List.length_pos_of_mem hy
    simp; omega

end Go.Proofs.YtehnalbdfnmphaaDoor
