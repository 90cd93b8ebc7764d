/- The strands hold each outgoing half-edge once. -/
import Derived.Test.YtehnalbdfnmphaaDoorS4
import Derived.Test.YtehnalbdfnmphaaDoorF1
import Derived.Test.YtehnalbdfnmphaaDoorPP4
namespace Go.Proofs.YtehnalbdfnmphaaDoor
open Go.Ab
set_option linter.unusedVariables false

theorem Front.lt {xs ms : List Int} {l : Int} (hF : Front xs ms l) : ∀ h, h < ms.length → psi ms h < ms.length := fun h hh => hF.mates.psi_lt hh
/-- Each orbit has a least one. -/
theorem orb_least {n : Nat} {f : Nat → Nat} (hi : Inj n f) (hl : ∀ h, h < n → f h < n) : ∀ h, h < n → ∃ s j, s < n ∧ Least f s ∧ it f j s = h := by
  intro h
  induction h using Nat.strongRecOn with
  | _ h ih =>
    intro hh
    by_cases hx : Least f h
    · exact ⟨h, 0, hh, hx, rfl⟩
    · unfold Least at hx
      simp only [Classical.not_forall, Nat.not_le] at hx
      obtain ⟨i, hi2⟩ := hx
      obtain ⟨s, j, h1, h2, h3⟩ := ih _ hi2 (by omega)
      obtain ⟨k, hk⟩ := orb_symm hi hl hh (rfl : it f i h = it f i h)
      exact ⟨s, k + j, h1, h2, by rw [it_add, h3, hk]⟩
/-- All half-edges of the strands. -/
noncomputable def walkA (xs ms : List Int) : List Nat := (strs xs ms).flatten
theorem walkA_mem {xs ms : List Int} {l : Int} (hF : Front xs ms l) {h : Nat} : h ∈ walkA xs ms ↔ h < ms.length ∧ outB xs h = true := by
  have hi := psi_inj hF.mates hF.inv
  unfold walkA strs
  rw [List.mem_flatten]
  constructor
  · rintro ⟨L, hL, hh⟩
    obtain ⟨s, hs, rfl⟩ := List.mem_map.1 hL
    obtain ⟨h1, h2, h3⟩ := starts_mem.1 hs
    obtain ⟨j, rfl⟩ := (cyc_is hF.mates hF.inv h1).1.mem.1 hh
    exact ⟨hF.mates.pit_lt h1 j, pit_out hF h1 h2 j⟩
  · rintro ⟨hh, ho⟩
    obtain ⟨s, j, h1, h2, h3⟩ := orb_least hi hF.lt h hh
    obtain ⟨k, hk⟩ := orb_symm hi hF.lt h1 h3
    have hso : outB xs s = true := by rw [← hk]; exact pit_out hF hh ho k
    exact ⟨_, List.mem_map.2 ⟨s, starts_mem.2 ⟨h1, hso, h2⟩, rfl⟩, (cyc_is hF.mates hF.inv h1).1.mem.2 ⟨j, h3⟩⟩
theorem cyc_nodup {n : Nat} {f : Nat → Nat} (hi : Inj n f) (hl : ∀ h, h < n → f h < n) {h : Nat} (hh : h < n) {L : List Nat} (hL : Cyc f h L) : L.Nodup := by
  obtain ⟨k, rfl, h2, h3⟩ := hL
  unfold orbN List.Nodup
  rw [List.pairwise_map]
  refine List.Pairwise.imp_of_mem ?_ (List.pairwise_lt_range (n := k + 1))
  intro a b ha hb hab he
  simp only [List.mem_range] at ha hb
  have := it_cancel hi hl hh a (b - a) (by rw [show a + (b - a) = b by omega]; exact he)
  exact h3 (b - a) (by omega) (by omega) this
theorem walkA_nodup {xs ms : List Int} {l : Int} (hF : Front xs ms l) : (walkA xs ms).Nodup := by
  have hi := psi_inj hF.mates hF.inv
  unfold walkA strs List.Nodup
  rw [List.pairwise_flatten]
  constructor
  · intro L hL
    obtain ⟨s, hs, rfl⟩ := List.mem_map.1 hL
    obtain ⟨h1, h2, h3⟩ := starts_mem.1 hs
    exact cyc_nodup hi hF.lt h1 (cyc_is hF.mates hF.inv h1).1
  · rw [List.pairwise_map]
    have hp : (starts xs ms ms.length).Pairwise (· ≠ ·) := by
      unfold starts
      exact List.Pairwise.filter _ (List.Pairwise.imp (fun h => by omega) (List.pairwise_lt_range (n := ms.length)))
    refine List.Pairwise.imp_of_mem ?_ hp
    intro a b ha hb hab x hx y hy he
    subst he
    obtain ⟨a1, a2, a3⟩ := starts_mem.1 ha
    obtain ⟨b1, b2, b3⟩ := starts_mem.1 hb
    obtain ⟨i, hi1⟩ := (cyc_is hF.mates hF.inv a1).1.mem.1 hx
    obtain ⟨j, hj1⟩ := (cyc_is hF.mates hF.inv b1).1.mem.1 hy
    obtain ⟨i', hi2⟩ := orb_symm hi hF.lt a1 hi1
    obtain ⟨j', hj2⟩ := orb_symm hi hF.lt b1 hj1
    have h1 := a3 (j' + i)
    rw [it_add, hi1, hj2] at h1
    have h2 := b3 (i' + j)
    rw [it_add, hj1, hi2] at h2
    omega
/-- As many as outgoing ones. -/
theorem walkA_len {xs ms : List Int} {l : Int} (hF : Front xs ms l) : (walkA xs ms).length = ((List.range ms.length).filter (outB xs)).length := by
  refine List.Perm.length_eq ((List.perm_ext_iff_of_nodup (walkA_nodup hF) ?_).2 fun h => ?_)
  · exact List.Pairwise.filter _ (List.nodup_range)
  · rw [walkA_mem hF, List.mem_filter, List.mem_range]
/-- The outgoing slots of a crossing. -/
theorem out_slot {xs ms : List Int} {l : Int} (hF : Front xs ms l) {h : Nat} (hh : h < ms.length) (ho : outB xs h = true) : h % 4 = 2 ∨ (h % 4 = 1 ∧ xs.getD (h / 4) 0 = 1) ∨ (h % 4 = 3 ∧ xs.getD (h / 4) 0 = -1) := by
  unfold outB at ho
  simp only [Bool.or_eq_true, Bool.and_eq_true, beq_iff_eq] at ho
  omega
/-- The crossing and its parity tell which outgoing half-edge it is. -/
theorem out_same {xs ms : List Int} {l : Int} (hF : Front xs ms l) {g h : Nat} (hg : g < ms.length) (hh : h < ms.length) (og : outB xs g = true) (oh : outB xs h = true) (h4 : g / 4 = h / 4) (h2 : g % 2 = h % 2) : g = h := by
  have h1 := out_slot hF hg og
  have h3 := out_slot hF hh oh
  rw [h4] at h1
  omega
end Go.Proofs.YtehnalbdfnmphaaDoor


namespace Go.Proofs.YtehnalbdfnmphaaDoor
open Go.Ab
set_option linter.unusedVariables false

/-- Equal labels: the same half-edge, or its mate. -/
def LabOK (ms lb : List Int) : Prop := ∀ g h, g < ms.length → h < ms.length → (lb.getD g 0 = lb.getD h 0 ↔ g = h ∨ g = mateN ms h)
section
variable {xs ms : List Int} {l : Int} (hF : Front xs ms l)
include hF
theorem mate_lt {h : Nat} (hh : h < ms.length) : mateN ms h < ms.length := by
  obtain ⟨m, h1, h2, h3, h4, h5⟩ := hF.ok h hh
  unfold mateN; rw [getD_at h1]; simpa using h2
theorem mate_mt {h : Nat} (hh : h < ms.length) : mateN ms (mateN ms h) = h := by
  obtain ⟨m, h1, h2, h3, h4, h5⟩ := hF.ok h hh
  unfold mateN; rw [getD_at h1, Int.toNat_natCast, getD_at h4]; simp
theorem mate_out {h : Nat} (hh : h < ms.length) : outB xs (mateN ms h) ≠ outB xs h := by
  obtain ⟨m, h1, h2, h3, h4, h5⟩ := hF.ok h hh
  unfold mateN; rw [getD_at h1, Int.toNat_natCast]
  exact fun e => h5 e.symm
theorem mate_ne {h : Nat} (hh : h < ms.length) : mateN ms h ≠ h := fun e => mate_out hF hh (by rw [e])
theorem mate_get {h : Nat} (hh : h < ms.length) : ms[h]? = some ((mateN ms h : Nat) : Int) := by
  obtain ⟨m, h1, h2, h3, h4, h5⟩ := hF.ok h hh
  unfold mateN; rw [getD_at h1, Int.toNat_natCast, h1]
theorem walkH_at {k h : Nat} (hk : (walkH xs ms)[k]? = some h) : h < ms.length ∧ outB xs h = true := (walkA_mem hF).1 (List.mem_of_getElem? hk)
theorem walkH_inj {j k h : Nat} (hj : (walkH xs ms)[j]? = some h) (hk : (walkH xs ms)[k]? = some h) : j = k := by
  obtain ⟨h1, h2⟩ := List.getElem?_eq_some_iff.1 hj
  obtain ⟨h3, h4⟩ := List.getElem?_eq_some_iff.1 hk
  exact (List.getElem_inj (h₀ := h1) (h₁ := h3) (walkA_nodup hF)).1 (h2.trans h4.symm)
theorem lbK_val : ∀ (K k h : Nat), k < K → K ≤ (walkH xs ms).length → (walkH xs ms)[k]? = some h → (lbK ms (walkH xs ms) K)[h]? = some ((k + 1 : Nat) : Int) ∧ (lbK ms (walkH xs ms) K)[mateN ms h]? = some ((k + 1 : Nat) : Int)
  | 0, k, h, hk, _, _ => by omega
  | K + 1, k, h, hk, hK, hw => by
    obtain ⟨hh, ho⟩ := walkH_at hF hw
    have hml := mate_lt hF hh
    have hmo : outB xs (mateN ms h) = false := by
      have := mate_out hF hh
      rw [ho] at this
      simpa using this
    obtain ⟨x, hx⟩ : ∃ x, (walkH xs ms)[K]? = some x := ⟨_, List.getElem?_eq_getElem (by omega)⟩
    obtain ⟨hxl, hxo⟩ := walkH_at hF hx
    have hgd : (walkH xs ms).getD K 0 = x := by simp [List.getD, hx]
    have hxm := mate_lt hF hxl
    have hxmo : outB xs (mateN ms x) = false := by
      have := mate_out hF hxl
      rw [hxo] at this
      simpa using this
    have hl := lbK_len ms (walkH xs ms) K
    rw [lbK, hgd]
    by_cases e : k = K
    · subst e
      rw [hw] at hx
      obtain rfl := Option.some.inj hx
      constructor
      · rw [List.getElem?_set_ne (mate_ne hF hh), List.getElem?_set_self (by omega)]
      · rw [List.getElem?_set_self (by rw [List.length_set]; omega)]
    · obtain ⟨i1, i2⟩ := lbK_val K k h (by omega) (by omega) hw
      have hne : x ≠ h := fun e2 => by subst e2; exact e (walkH_inj hF hw hx)
      constructor
      · rw [List.getElem?_set_ne (fun e2 => by rw [e2, ho] at hxmo; cases hxmo), List.getElem?_set_ne hne, i1]
      · rw [List.getElem?_set_ne (fun e2 => hne (by rw [← mate_mt hF hxl, e2, mate_mt hF hh])), List.getElem?_set_ne (fun e2 => by rw [e2, hmo] at hxo; cases hxo), i2]
/-- The label of a half-edge is the step at which its edge is walked. -/
theorem labs_at {g : Nat} (hg : g < ms.length) : ∃ k h : Nat, (walkH xs ms)[k]? = some h ∧ (g = h ∨ g = mateN ms h) ∧ (labs xs ms).getD g 0 = ((k + 1 : Nat) : Int) := by
  cases ho : outB xs g with
  | true =>
    obtain ⟨k, hk⟩ := List.mem_iff_getElem?.1 ((walkA_mem hF).2 ⟨hg, ho⟩ : g ∈ walkH xs ms)
    refine ⟨k, g, hk, .inl rfl, getD_at (lbK_val hF _ k g (List.getElem?_eq_some_iff.1 hk).1 (Nat.le_refl _) hk).1⟩
  | false =>
    have hm := mate_lt hF hg
    have hmo : outB xs (mateN ms g) = true := by
      have := mate_out hF hg
      rw [ho] at this
      simpa using this
    obtain ⟨k, hk⟩ := List.mem_iff_getElem?.1 ((walkA_mem hF).2 ⟨hm, hmo⟩ : mateN ms g ∈ walkH xs ms)
    have h2 := (lbK_val hF _ k _ (List.getElem?_eq_some_iff.1 hk).1 (Nat.le_refl _) hk).2
    rw [mate_mt hF hg] at h2
    exact ⟨k, _, hk, .inr (mate_mt hF hg).symm, getD_at h2⟩
theorem labs_ok : LabOK ms (labs xs ms) := by
  intro g h hg hh
  obtain ⟨k1, a, ha, ga, la⟩ := labs_at hF hg
  obtain ⟨k2, b, hb, gb, lb⟩ := labs_at hF hh
  have mal := (walkH_at hF ha).1
  have mbl := (walkH_at hF hb).1
  rw [la, lb]
  constructor
  · intro e
    have : k1 = k2 := by omega
    subst this
    rw [ha] at hb
    obtain rfl := Option.some.inj hb
    rcases ga with rfl | rfl <;> rcases gb with rfl | rfl
    · exact .inl rfl
    · exact .inr (mate_mt hF mal).symm
    · exact .inr rfl
    · exact .inl rfl
  · intro e
    have hab : a = b := by
      rcases e with rfl | rfl
      · rcases ga with rfl | rfl <;> rcases gb with e2 | e2
        · exact e2
        · exact absurd (by rw [e2] : outB xs g = outB xs (mateN ms b)) (fun e3 => mate_out hF mbl (by rw [← e3, (walkH_at hF ha).2, (walkH_at hF hb).2]))
        · exact absurd (by rw [e2] : outB xs (mateN ms a) = outB xs b) (fun e3 => mate_out hF mal (by rw [e3, (walkH_at hF ha).2, (walkH_at hF hb).2]))
        · rw [← mate_mt hF mal, e2, mate_mt hF mbl]
      · rcases gb with rfl | rfl
        · rcases ga with e2 | e2
          · exact absurd (by rw [e2] : outB xs (mateN ms h) = outB xs a) (fun e3 => mate_out hF hh (by rw [e3, (walkH_at hF ha).2, (walkH_at hF hb).2]))
          · rw [← mate_mt hF mal, ← e2, mate_mt hF hh]
        · rw [mate_mt hF mbl] at ga
          rcases ga with e2 | e2
          · exact e2.symm
          · exact absurd (by rw [e2] : outB xs b = outB xs (mateN ms a)) (fun e3 => mate_out hF mal (by rw [← e3, (walkH_at hF ha).2, (walkH_at hF hb).2]))
    subst hab
    rw [walkH_inj hF ha hb]
theorem labs_range {g : Nat} (hg : g < ms.length) : 1 ≤ (labs xs ms).getD g 0 ∧ (labs xs ms).getD g 0 ≤ 128 := by
  obtain ⟨k, h, hk, -, e⟩ := labs_at hF hg
  have hl := walkA_len hF
  have hc := cntO_four hF.sgn xs.length (Nat.le_refl _)
  unfold cntO at hc
  have h4 := hF.four
  have hn := hF.n64
  rw [h4, hc] at hl
  have := (List.getElem?_eq_some_iff.1 hk).1
  have e2 : (walkA xs ms).length = (walkH xs ms).length := rfl
  omega
theorem ok_mt {lb : List Int} (hL : LabOK ms lb) {h : Nat} (hh : h < ms.length) : Mt xs lb ms.length h (mateN ms h) :=
  ⟨mate_lt hF hh, mate_ne hF hh, (hL _ _ (mate_lt hF hh) hh).2 (.inr rfl), mate_out hF hh, fun g' h1 h2 h3 => ((hL g' h h1 hh).1 h3).resolve_left h2⟩
theorem ok_ma {lb : List Int} (hL : LabOK ms lb) : MA xs lb (4 * xs.length) := MR.ma fun h hh => ⟨mateN ms h, by
  have := ok_mt hF hL (h := h) (by rw [hF.four]; exact hh)
  rwa [hF.four] at this⟩
theorem ok_mtL {lb : List Int} (hL : LabOK ms lb) : mtL xs lb (4 * xs.length) = ms := by
  refine List.ext_getElem? fun h => ?_
  rcases Nat.lt_or_ge h ms.length with hh | hh
  · have := mtL_get hh (ok_mt hF hL hh)
    rw [hF.four] at this
    rw [this, mate_get hF hh]
  · rw [List.getElem?_eq_none (by rw [mtL_len, ← hF.four]; exact hh), List.getElem?_eq_none hh]
end
end Go.Proofs.YtehnalbdfnmphaaDoor

