/- Orbits of a one to one map: plain. -/
import Derived.Test.YtehnalbdfnmphaaDoorFace
import Derived.Test.YtehnalbdfnmphaaDoorLst
namespace Go.Proofs.YtehnalbdfnmphaaDoor
open Go.Ab
set_option linter.unusedVariables false

theorem it_add (f : Nat → Nat) (h : Nat) : ∀ a b, it f (a + b) h = it f a (it f b h)
  | 0, b => by simp [it]
  | a + 1, b => by rw [show a + 1 + b = (a + b) + 1 by omega]; simp [it, it_add f h a b]

theorem it_all {f : Nat → Nat} {h k : Nat} (hk : it f (k + 1) h = h) : ∀ j, ∃ i, i ≤ k ∧ it f j h = it f i h := by
  intro j
  induction j using Nat.strongRecOn with
  | _ j ih =>
    by_cases hj : j ≤ k
    · exact ⟨j, hj, rfl⟩
    · obtain ⟨i, h1, h2⟩ := ih (j - (k + 1)) (by omega)
      refine ⟨i, h1, ?_⟩
      rw [show j = (j - (k + 1)) + (k + 1) by omega, it_add, hk, h2]

/-- One to one below n. -/
def Inj (n : Nat) (f : Nat → Nat) : Prop := ∀ a b, a < n → b < n → f a = f b → a = b

theorem it_cancel {n : Nat} {f : Nat → Nat} (hi : Inj n f) (hl : ∀ h, h < n → f h < n) {h : Nat} (hh : h < n) : ∀ a b, it f a h = it f (a + b) h → it f b h = h
  | 0, b, he => by simpa [it] using he.symm
  | a + 1, b, he => by
    have il : ∀ m, it f m h < n := fun m => by
      induction m with
      | zero => exact hh
      | succ m ih => exact hl _ ih
    refine it_cancel hi hl hh a b (hi _ _ (il a) (il _) ?_)
    rw [show a + 1 + b = (a + b) + 1 by omega] at he
    exact he

/-- It comes back within n steps. -/
theorem it_back {n : Nat} {f : Nat → Nat} (hi : Inj n f) (hl : ∀ h, h < n → f h < n) {h : Nat} (hh : h < n) : ∃ j, 1 ≤ j ∧ j ≤ n ∧ it f j h = h := by
  refine Classical.byContradiction fun hc => ?_
  have il : ∀ m, it f m h < n := fun m => by
    induction m with
    | zero => exact hh
    | succ m ih => exact hl _ ih
  have hnd : ((List.range (n + 1)).map fun j => it f j h).Nodup := by
    unfold List.Nodup
    rw [List.pairwise_map]
    refine List.Pairwise.imp_of_mem (R := fun a b => a < b) ?_ List.pairwise_lt_range
    intro a b ha hb hab he
    simp only [List.mem_range] at ha hb
    refine hc ⟨b - a, by omega, by omega, it_cancel hi hl hh a (b - a) ?_⟩
    rw [show a + (b - a) = b by omega]
    exact he
  have := fit_len (T := List.range n) hnd (fun y hy => by
    simp only [List.mem_map] at hy
    obtain ⟨j, _, rfl⟩ := hy
    simpa using il j)
  simp at this
  omega

/-- The mates of mates. -/
def Inv (ms : List Int) : Prop := ∀ (i m : Nat), ms[i]? = some (m : Int) → ms[m]? = some (i : Int)

theorem turn_inj {x y k : Nat} (hk : k < 4) (he : turnN x k = turnN y k) : x = y := by unfold turnN at he; omega

theorem phi_inj {ms : List Int} (hm : Mates ms) (hv : Inv ms) : Inj ms.length (phi ms) := by
  intro a b ha hb he
  obtain ⟨m, h1, h2⟩ := hm.get a ha
  obtain ⟨m', h3, h4⟩ := hm.get b hb
  unfold phi at he
  rw [getD_at h1, getD_at h3] at he
  have h5 := turn_inj (by omega) he
  simp at h5
  subst h5
  have h6 := hv _ _ h1
  have h7 := hv _ _ h3
  rw [h6] at h7
  have h8 := Option.some.inj h7
  omega

/-- Face takes the whole orbit. -/
theorem FaceTo.back {ms : List Int} (hm : Mates ms) (hv : Inv ms) {h k : Nat} (hh : h < ms.length) (hf : FaceTo ms h k) : it (phi ms) (k + 1) h = h := by
  rcases hf.2.2 with hf2 | hf2
  · exact hf2
  · obtain ⟨j, h1, h2, h3⟩ := it_back (phi_inj hm hv) (fun h hh => hm.phi_lt hh) hh
    exact absurd h3 (hf.1 j h1 (by omega))

/-- The least of its orbit. -/
def Least (f : Nat → Nat) (h : Nat) : Prop := ∀ j, h ≤ it f j h

theorem least_iff {f : Nat → Nat} {h k : Nat} (hk : it f (k + 1) h = h) : (orb f h k).all (fun y => decide ((h : Int) ≤ y)) = true ↔ Least f h := by
  simp only [List.all_eq_true, orb, List.mem_map, List.mem_range, decide_eq_true_eq]
  constructor
  · intro ha j
    obtain ⟨i, h1, h2⟩ := it_all hk j
    have := ha _ ⟨i, by omega, rfl⟩
    rw [h2]; omega
  · rintro hl y ⟨j, hj, rfl⟩
    have := hl j
    omega

end Go.Proofs.YtehnalbdfnmphaaDoor
