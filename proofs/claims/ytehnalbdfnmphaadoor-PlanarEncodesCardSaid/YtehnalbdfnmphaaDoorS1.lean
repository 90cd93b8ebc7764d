/- Strands, in plain words. -/
import Derived.Test.YtehnalbdfnmphaaDoorV8
namespace Go.Proofs.YtehnalbdfnmphaaDoor
open Go.Ab
set_option linter.unusedVariables false

/-- The next half-edge along the strand. -/
def psi (ms : List Int) (h : Nat) : Nat := turnN (ms.getD h 0).toNat 2
theorem Mates.psi_lt {ms : List Int} (hm : Mates ms) {h : Nat} (hh : h < ms.length) : psi ms h < ms.length := by
  obtain ⟨m, h1, h2⟩ := hm.get h hh
  unfold psi
  rw [getD_at h1]
  exact turn_lt hm.four (by simpa using h2)
theorem Mates.pit_lt {ms : List Int} (hm : Mates ms) {h : Nat} (hh : h < ms.length) : ∀ n, it (psi ms) n h < ms.length
  | 0 => hh
  | n + 1 => hm.psi_lt (hm.pit_lt hh n)
theorem psi_inj {ms : List Int} (hm : Mates ms) (hv : Inv ms) : Inj ms.length (psi ms) := by
  intro a b ha hb he
  obtain ⟨m, h1, h2⟩ := hm.get a ha
  obtain ⟨m', h3, h4⟩ := hm.get b hb
  unfold psi at he
  rw [getD_at h1, getD_at h3] at he
  have h5 := turn_inj (by omega) he
  simp at h5
  subst h5
  have h6 := hv _ _ h1
  have h7 := hv _ _ h3
  rw [h6] at h7
  have h8 := Option.some.inj h7
  omega

/-- The first k + 1 of an orbit. -/
def orbN (f : Nat → Nat) (h k : Nat) : List Nat := (List.range (k + 1)).map fun j => it f j h
theorem orbN_succ (f : Nat → Nat) (h k : Nat) : orbN f h (k + 1) = orbN f h k ++ [it f (k + 1) h] := by
  unfold orbN; rw [List.range_succ, List.map_append]; rfl
theorem orbN_len (f : Nat → Nat) (h k : Nat) : (orbN f h k).length = k + 1 := by simp [orbN]
/-- L is the orbit of h, from h on. -/
def Cyc (f : Nat → Nat) (h : Nat) (L : List Nat) : Prop := ∃ k, L = orbN f h k ∧ it f (k + 1) h = h ∧ ∀ j, 1 ≤ j → j ≤ k → it f j h ≠ h
theorem Cyc.uniq {f : Nat → Nat} {h : Nat} {L M : List Nat} (a : Cyc f h L) (b : Cyc f h M) : L = M := by
  obtain ⟨k, h1, h2, h3⟩ := a
  obtain ⟨j, g1, g2, g3⟩ := b
  have : k = j := by
    rcases Nat.lt_trichotomy k j with h | h | h
    · exact absurd h2 (g3 (k + 1) (by omega) (by omega))
    · exact h
    · exact absurd g2 (h3 (j + 1) (by omega) (by omega))
  subst this
  rw [h1, g1]
theorem Cyc.mem {f : Nat → Nat} {h : Nat} {L : List Nat} (a : Cyc f h L) {g : Nat} : g ∈ L ↔ ∃ j, it f j h = g := by
  obtain ⟨k, rfl, h2, h3⟩ := a
  unfold orbN
  simp only [List.mem_map, List.mem_range]
  constructor
  · rintro ⟨j, _, hj⟩
    exact ⟨j, hj⟩
  · rintro ⟨j, hj⟩
    obtain ⟨i, h4, h5⟩ := it_all h2 j
    exact ⟨i, by omega, by rw [← h5, hj]⟩
/-- There is one, of at most n. -/
theorem Cyc.some {n : Nat} {f : Nat → Nat} (hi : Inj n f) (hl : ∀ h, h < n → f h < n) {h : Nat} (hh : h < n) : ∃ L, Cyc f h L ∧ L.length ≤ n := by
  obtain ⟨j, h1, h2, h3⟩ := it_back hi hl hh
  have key : ∀ m, m ≤ n → it f (m + 1) h = h → ∃ L, Cyc f h L ∧ L.length ≤ m + 1 := by
    intro m
    induction m using Nat.strongRecOn with
    | _ m ih =>
      intro hm he
      by_cases hx : ∀ j, 1 ≤ j → j ≤ m → it f j h ≠ h
      · exact ⟨_, ⟨m, rfl, he, hx⟩, by rw [orbN_len]; omega⟩
      · simp only [Classical.not_forall] at hx
        obtain ⟨i, a1, a2, a3⟩ := hx
        obtain ⟨L, b1, b2⟩ := ih (i - 1) (by omega) (by omega) (by rw [show i - 1 + 1 = i by omega]; exact Classical.not_not.1 a3)
        exact ⟨L, b1, by omega⟩
  obtain ⟨L, b1, b2⟩ := key (j - 1) (by omega) (by rw [show j - 1 + 1 = j by omega]; exact h3)
  exact ⟨L, b1, by omega⟩
open Classical in
/-- The orbit of h. -/
noncomputable def cyc (f : Nat → Nat) (h : Nat) : List Nat := if hx : ∃ L, Cyc f h L then hx.choose else []
theorem Cyc.eq {f : Nat → Nat} {h : Nat} {L : List Nat} (a : Cyc f h L) : cyc f h = L := by
  unfold cyc
  have hx : ∃ L, Cyc f h L := ⟨L, a⟩
  rw [dif_pos hx]
  exact hx.choose_spec.uniq a
theorem cyc_is {ms : List Int} (hm : Mates ms) (hv : Inv ms) {h : Nat} (hh : h < ms.length) : Cyc (psi ms) h (cyc (psi ms) h) ∧ (cyc (psi ms) h).length ≤ ms.length := by
  obtain ⟨L, h1, h2⟩ := Cyc.some (psi_inj hm hv) (fun h hh => hm.psi_lt hh) hh
  rw [h1.eq]; exact ⟨h1, h2⟩

open Classical in
/-- Where the strands begin, below c. -/
noncomputable def starts (xs ms : List Int) (c : Nat) : List Nat := (List.range c).filter fun h => outB xs h && decide (Least (psi ms) h)
theorem starts_succ (xs ms : List Int) (c : Nat) : starts xs ms (c + 1) = starts xs ms c ++ (open Classical in if outB xs c = true ∧ Least (psi ms) c then [c] else []) := by
  unfold starts
  rw [List.range_succ, List.filter_append]
  congr 1
  by_cases h : outB xs c = true ∧ Least (psi ms) c
  · rw [if_pos h]; simp [h.1, h.2]
  · rw [if_neg h]
    by_cases h1 : outB xs c = true
    · have h2 : ¬ Least (psi ms) c := fun h2 => h ⟨h1, h2⟩
      simp [h2]
    · simp at h1; simp [h1]
theorem starts_le (xs ms : List Int) (c : Nat) : (starts xs ms c).length ≤ c := by
  unfold starts
  exact Nat.le_trans (List.length_filter_le _ _) (by simp)
theorem starts_mem {xs ms : List Int} {c h : Nat} : h ∈ starts xs ms c ↔ h < c ∧ outB xs h = true ∧ Least (psi ms) h := by
  unfold starts
  simp [List.mem_filter]
/-- The strands. -/
noncomputable def strs (xs ms : List Int) : List (List Nat) := (starts xs ms ms.length).map (cyc (psi ms))

/-- Going on along a strand: from outgoing to outgoing. -/
theorem psi_out {xs ms : List Int} {l : Int} (hF : Front xs ms l) {h : Nat} (hh : h < ms.length) (ho : outB xs h = true) : outB xs (psi ms h) = true := by
  obtain ⟨m, h1, h2, h3, h4, h5⟩ := hF.ok h hh
  have hp : psi ms h = turnN m 2 := by unfold psi; rw [getD_at h1]; simp
  have hmo : outB xs m = false := by
    cases hx : outB xs m with
    | false => rfl
    | true => exact absurd (ho.trans hx.symm) h5
  have hlen := hF.four
  have hx : xs[m / 4]? = some (xs.getD (m / 4) 0) := by simp [List.getD, show m / 4 < xs.length by omega]
  have hs := hF.sgn _ (List.mem_of_getElem? hx)
  have hd : turnN m 2 / 4 = m / 4 := by unfold turnN; omega
  have hr : turnN m 2 % 4 = (m % 4 + 2) % 4 := by unfold turnN; omega
  rw [hp]
  unfold outB at hmo ⊢
  rw [hd, hr]
  have h4 : m % 4 = 0 ∨ m % 4 = 1 ∨ m % 4 = 2 ∨ m % 4 = 3 := by omega
  rcases h4 with h | h | h | h <;> rw [h] at hmo ⊢ <;> rcases hs with hs | hs <;> rw [hs] at hmo ⊢ <;> simp at hmo ⊢
theorem pit_out {xs ms : List Int} {l : Int} (hF : Front xs ms l) {h : Nat} (hh : h < ms.length) (ho : outB xs h = true) : ∀ j, outB xs (it (psi ms) j h) = true
  | 0 => ho
  | j + 1 => psi_out hF (hF.mates.pit_lt hh j) (pit_out hF hh ho j)

/-- Seen: on the strand of an outgoing one below c. -/
def SeenO (xs ms : List Int) (c g : Nat) : Prop := ∃ a, a < c ∧ outB xs a = true ∧ ∃ j, it (psi ms) j a = g
theorem seenO_least {xs ms : List Int} {l : Int} (hF : Front xs ms l) {c : Nat} (hc : c < ms.length) (ho : outB xs c = true) : ¬ SeenO xs ms c c ↔ Least (psi ms) c := by
  have hi := psi_inj hF.mates hF.inv
  have hl : ∀ h, h < ms.length → psi ms h < ms.length := fun h hh => hF.mates.psi_lt hh
  constructor
  · intro h j
    refine Classical.byContradiction fun hlt => h ⟨it (psi ms) j c, by omega, pit_out hF hc ho j, ?_⟩
    exact orb_symm hi hl hc rfl
  · rintro h ⟨a, ha, _, j, hj⟩
    obtain ⟨i, hi2⟩ := orb_symm hi hl (by omega) hj
    have := h i
    omega
theorem seenO_skip {xs ms : List Int} {c g : Nat} (h : outB xs c = true → SeenO xs ms c c) : SeenO xs ms (c + 1) g ↔ SeenO xs ms c g := by
  constructor
  · rintro ⟨a, ha, ho, j, hj⟩
    rcases Nat.lt_or_ge a c with h1 | h1
    · exact ⟨a, h1, ho, j, hj⟩
    · have : a = c := by omega
      subst this
      obtain ⟨b, hb, hbo, i, hi⟩ := h ho
      exact ⟨b, hb, hbo, j + i, by rw [it_add, hi, hj]⟩
  · rintro ⟨a, ha, ho, j, hj⟩
    exact ⟨a, by omega, ho, j, hj⟩
theorem seenO_next {xs ms : List Int} {c g : Nat} {L : List Nat} (ho : outB xs c = true) (hL : Cyc (psi ms) c L) : SeenO xs ms (c + 1) g ↔ SeenO xs ms c g ∨ g ∈ L := by
  rw [hL.mem]
  constructor
  · rintro ⟨a, ha, ho, j, hj⟩
    rcases Nat.lt_or_ge a c with h1 | h1
    · exact .inl ⟨a, h1, ho, j, hj⟩
    · have : a = c := by omega
      subst this
      exact .inr ⟨j, hj⟩
  · rintro (⟨a, ha, ho, j, hj⟩ | ⟨j, hj⟩)
    · exact ⟨a, by omega, ho, j, hj⟩
    · exact ⟨c, by omega, ho, j, hj⟩
end Go.Proofs.YtehnalbdfnmphaaDoor
