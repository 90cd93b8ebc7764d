/- The strands hold each outgoing half-edge once. -/
import Derived.Test.YtleoalcbgpjieaaDoorS4
namespace Go.Proofs.YtleoalcbgpjieaaDoor
open Go.Ab
set_option linter.unusedVariables false

theorem Front.lt {xs ms : List Int} {l : Int} (hF : Front xs ms l) : ∀ h, h < ms.length → psi ms h < ms.length := fun h hh => hF.mates.psi_lt hh
/-- Each orbit has a least one. -/
theorem orb_least {n : Nat} {f : Nat → Nat} (hi : Inj n f) (hl : ∀ h, h < n → f h < n) : ∀ h, h < n → ∃ s j, s < n ∧ Least f s ∧ it f j s = h := by
  intro h
  induction h using Nat.strongRecOn with
  | _ h ih =>
    intro hh
    by_cases hx : Least f h
    · exact ⟨h, 0, hh, hx, rfl⟩
    · unfold Least at hx
      simp only [Classical.not_forall, Nat.not_le] at hx
      obtain ⟨i, hi2⟩ := hx
      obtain ⟨s, j, h1, h2, h3⟩ := ih _ hi2 (by omega)
      obtain ⟨k, hk⟩ := orb_symm hi hl hh (rfl : it f i h = it f i h)
      exact ⟨s, k + j, h1, h2, by rw [it_add, h3, hk]⟩
/-- All half-edges of the strands. -/
noncomputable def walkA (xs ms : List Int) : List Nat := (strs xs ms).flatten
theorem walkA_mem {xs ms : List Int} {l : Int} (hF : Front xs ms l) {h : Nat} : h ∈ walkA xs ms ↔ h < ms.length ∧ outB xs h = true := by
  have hi := psi_inj hF.mates hF.inv
  unfold walkA strs
  rw [List.mem_flatten]
  constructor
  · rintro ⟨L, hL, hh⟩
    obtain ⟨s, hs, rfl⟩ := List.mem_map.1 hL
    obtain ⟨h1, h2, h3⟩ := starts_mem.1 hs
    obtain ⟨j, rfl⟩ := (cyc_is hF.mates hF.inv h1).1.mem.1 hh
    exact ⟨hF.mates.pit_lt h1 j, pit_out hF h1 h2 j⟩
  · rintro ⟨hh, ho⟩
    obtain ⟨s, j, h1, h2, h3⟩ := orb_least hi hF.lt h hh
    obtain ⟨k, hk⟩ := orb_symm hi hF.lt h1 h3
    have hso : outB xs s = true := by rw [← hk]; exact pit_out hF hh ho k
    exact ⟨_, List.mem_map.2 ⟨s, starts_mem.2 ⟨h1, hso, h2⟩, rfl⟩, (cyc_is hF.mates hF.inv h1).1.mem.2 ⟨j, h3⟩⟩
theorem cyc_nodup {n : Nat} {f : Nat → Nat} (hi : Inj n f) (hl : ∀ h, h < n → f h < n) {h : Nat} (hh : h < n) {L : List Nat} (hL : Cyc f h L) : L.Nodup := by
  obtain ⟨k, rfl, h2, h3⟩ := hL
  unfold orbN List.Nodup
  rw [List.pairwise_map]
  refine List.Pairwise.imp_of_mem ?_ (List.pairwise_lt_range (n := k + 1))
  intro a b ha hb hab he
  simp only [List.mem_range] at ha hb
  have := it_cancel hi hl hh a (b - a) (by rw [show a + (b - a) = b by omega]; exact he)
  exact h3 (b - a) (by omega) (by omega) this
theorem walkA_nodup {xs ms : List Int} {l : Int} (hF : Front xs ms l) : (walkA xs ms).Nodup := by
  have hi := psi_inj hF.mates hF.inv
  unfold walkA strs List.Nodup
  rw [List.pairwise_flatten]
  constructor
  · intro L hL
    obtain ⟨s, hs, rfl⟩ := List.mem_map.1 hL
    obtain ⟨h1, h2, h3⟩ := starts_mem.1 hs
    exact cyc_nodup hi hF.lt h1 (cyc_is hF.mates hF.inv h1).1
  · rw [List.pairwise_map]
    have hp : (starts xs ms ms.length).Pairwise (· ≠ ·) := by
      unfold starts
      exact List.Pairwise.filter _ (List.Pairwise.imp (fun h => by omega) (List.pairwise_lt_range (n := ms.length)))
    refine List.Pairwise.imp_of_mem ?_ hp
    intro a b ha hb hab x hx y hy he
    subst he
    obtain ⟨a1, a2, a3⟩ := starts_mem.1 ha
    obtain ⟨b1, b2, b3⟩ := starts_mem.1 hb
    obtain ⟨i, hi1⟩ := (cyc_is hF.mates hF.inv a1).1.mem.1 hx
    obtain ⟨j, hj1⟩ := (cyc_is hF.mates hF.inv b1).1.mem.1 hy
    obtain ⟨i', hi2⟩ := orb_symm hi hF.lt a1 hi1
    obtain ⟨j', hj2⟩ := orb_symm hi hF.lt b1 hj1
    have h1 := a3 (j' + i)
    rw [it_add, hi1, hj2] at h1
    have h2 := b3 (i' + j)
    rw [it_add, hj1, hi2] at h2
    omega
/-- As many as outgoing ones. -/
theorem walkA_len {xs ms : List Int} {l : Int} (hF : Front xs ms l) : (walkA xs ms).length = ((List.range ms.length).filter (outB xs)).length := by
  refine List.Perm.length_eq ((List.perm_ext_iff_of_nodup (walkA_nodup hF) ?_).2 fun h => ?_)
  · exact List.Pairwise.filter _ (List.nodup_range)
  · rw [walkA_mem hF, List.mem_filter, List.mem_range]
/-- The outgoing slots of a crossing. -/
theorem out_slot {xs ms : List Int} {l : Int} (hF : Front xs ms l) {h : Nat} (hh : h < ms.length) (ho : outB xs h = true) : h % 4 = 2 ∨ (h % 4 = 1 ∧ xs.getD (h / 4) 0 = 1) ∨ (h % 4 = 3 ∧ xs.getD (h / 4) 0 = -1) := by
  unfold outB at ho
  simp only [Bool.or_eq_true, Bool.and_eq_true, beq_iff_eq] at ho
  omega
/-- The crossing and its parity tell which outgoing half-edge it is. -/
theorem out_same {xs ms : List Int} {l : Int} (hF : Front xs ms l) {g h : Nat} (hg : g < ms.length) (hh : h < ms.length) (og : outB xs g = true) (oh : outB xs h = true) (h4 : g / 4 = h / 4) (h2 : g % 2 = h % 2) : g = h := by
  have h1 := out_slot hF hg og
  have h3 := out_slot hF hh oh
  rw [h4] at h1
  omega
end Go.Proofs.YtleoalcbgpjieaaDoor
