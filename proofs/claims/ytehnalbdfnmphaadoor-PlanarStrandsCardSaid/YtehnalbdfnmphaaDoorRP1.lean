/- The labels of a valid diagram pair its half-edges. -/
import Derived.Test.YtehnalbdfnmphaaDoorS5
import Derived.Test.YtehnalbdfnmphaaDoorF1
import Derived.Test.YtehnalbdfnmphaaDoorPP3
namespace Go.Proofs.YtehnalbdfnmphaaDoor
open Go.Ab
set_option linter.unusedVariables false

/-- Equal labels: the same half-edge, or its mate. -/
def LabOK (ms lb : List Int) : Prop := ∀ g h, g < ms.length → h < ms.length → (lb.getD g 0 = lb.getD h 0 ↔ g = h ∨ g = mateN ms h)
section
variable {xs ms : List Int} {l : Int} (hF : Front xs ms l)
include hF
theorem mate_lt {h : Nat} (hh : h < ms.length) : mateN ms h < ms.length := by
  obtain ⟨m, h1, h2, h3, h4, h5⟩ := hF.ok h hh
  unfold mateN; rw [getD_at h1]; simpa using h2
theorem mate_mt {h : Nat} (hh : h < ms.length) : mateN ms (mateN ms h) = h := by
  obtain ⟨m, h1, h2, h3, h4, h5⟩ := hF.ok h hh
  unfold mateN; rw [getD_at h1, Int.toNat_natCast, getD_at h4]; simp
theorem mate_out {h : Nat} (hh : h < ms.length) : outB xs (mateN ms h) ≠ outB xs h := by
  obtain ⟨m, h1, h2, h3, h4, h5⟩ := hF.ok h hh
  unfold mateN; rw [getD_at h1, Int.toNat_natCast]
  exact fun e => h5 e.symm
theorem mate_ne {h : Nat} (hh : h < ms.length) : mateN ms h ≠ h := fun e => mate_out hF hh (by rw [e])
theorem mate_get {h : Nat} (hh : h < ms.length) : ms[h]? = some ((mateN ms h : Nat) : Int) := by
  obtain ⟨m, h1, h2, h3, h4, h5⟩ := hF.ok h hh
  unfold mateN; rw [getD_at h1, Int.toNat_natCast, h1]
theorem walkH_at {k h : Nat} (hk : (walkH xs ms)[k]? = some h) : h < ms.length ∧ outB xs h = true := (walkA_mem hF).1 (List.mem_of_getElem? hk)
theorem walkH_inj {j k h : Nat} (hj : (walkH xs ms)[j]? = some h) (hk : (walkH xs ms)[k]? = some h) : j = k := by
  obtain ⟨h1, h2⟩ := List.getElem?_eq_some_iff.1 hj
  obtain ⟨h3, h4⟩ := List.getElem?_eq_some_iff.1 hk
  exact (List.getElem_inj (h₀ := h1) (h₁ := h3) (walkA_nodup hF)).1 (h2.trans h4.symm)
theorem lbK_val : ∀ (K k h : Nat), k < K → K ≤ (walkH xs ms).length → (walkH xs ms)[k]? = some h → (lbK ms (walkH xs ms) K)[h]? = some ((k + 1 : Nat) : Int) ∧ (lbK ms (walkH xs ms) K)[mateN ms h]? = some ((k + 1 : Nat) : Int)
  | 0, k, h, hk, _, _ => by omega
  | K + 1, k, h, hk, hK, hw => by
    obtain ⟨hh, ho⟩ := walkH_at hF hw
    have hml := mate_lt hF hh
    have hmo : outB xs (mateN ms h) = false := by
      have := mate_out hF hh
      rw [ho] at this
      simpa using this
    obtain ⟨x, hx⟩ : ∃ x, (walkH xs ms)[K]? = some x := ⟨_, List.getElem?_eq_getElem (by omega)⟩
    obtain ⟨hxl, hxo⟩ := walkH_at hF hx
    have hgd : (walkH xs ms).getD K 0 = x := by simp [List.getD, hx]
    have hxm := mate_lt hF hxl
    have hxmo : outB xs (mateN ms x) = false := by
      have := mate_out hF hxl
      rw [hxo] at this
      simpa using this
    have hl := lbK_len ms (walkH xs ms) K
    rw [lbK, hgd]
    by_cases e : k = K
    · subst e
      rw [hw] at hx
      obtain rfl := Option.some.inj hx
      constructor
      · rw [List.getElem?_set_ne (mate_ne hF hh), List.getElem?_set_self (by omega)]
      · rw [List.getElem?_set_self (by rw [List.length_set]; omega)]
    · obtain ⟨i1, i2⟩ := lbK_val K k h (by omega) (by omega) hw
      have hne : x ≠ h := fun e2 => by subst e2; exact e (walkH_inj hF hw hx)
      constructor
      · rw [List.getElem?_set_ne (fun e2 => by rw [e2, ho] at hxmo; cases hxmo), List.getElem?_set_ne hne, i1]
      · rw [List.getElem?_set_ne (fun e2 => hne (by rw [← mate_mt hF hxl, e2, mate_mt hF hh])), List.getElem?_set_ne (fun e2 => by rw [e2, hmo] at hxo; cases hxo), i2]
/-- The label of a half-edge is the step at which its edge is walked. -/
theorem labs_at {g : Nat} (hg : g < ms.length) : ∃ k h : Nat, (walkH xs ms)[k]? = some h ∧ (g = h ∨ g = mateN ms h) ∧ (labs xs ms).getD g 0 = ((k + 1 : Nat) : Int) := by
  cases ho : outB xs g with
  | true =>
    obtain ⟨k, hk⟩ := List.mem_iff_getElem?.1 ((walkA_mem hF).2 ⟨hg, ho⟩ : g ∈ walkH xs ms)
    refine ⟨k, g, hk, .inl rfl, getD_at (lbK_val hF _ k g (List.getElem?_eq_some_iff.1 hk).1 (Nat.le_refl _) hk).1⟩
  | false =>
    have hm := mate_lt hF hg
    have hmo : outB xs (mateN ms g) = true := by
      have := mate_out hF hg
      rw [ho] at this
      simpa using this
    obtain ⟨k, hk⟩ := List.mem_iff_getElem?.1 ((walkA_mem hF).2 ⟨hm, hmo⟩ : mateN ms g ∈ walkH xs ms)
    have h2 := (lbK_val hF _ k _ (List.getElem?_eq_some_iff.1 hk).1 (Nat.le_refl _) hk).2
    rw [mate_mt hF hg] at h2
    exact ⟨k, _, hk, .inr (mate_mt hF hg).symm, getD_at h2⟩
theorem labs_ok : LabOK ms (labs xs ms) := by
  intro g h hg hh
  obtain ⟨k1, a, ha, ga, la⟩ := labs_at hF hg
  obtain ⟨k2, b, hb, gb, lb⟩ := labs_at hF hh
  have mal := (walkH_at hF ha).1
  have mbl := (walkH_at hF hb).1
  rw [la, lb]
  constructor
  · intro e
    have : k1 = k2 := by omega
    subst this
    rw [ha] at hb
    obtain rfl := Option.some.inj hb
    rcases ga with rfl | rfl <;> rcases gb with rfl | rfl
    · exact .inl rfl
    · exact .inr (mate_mt hF mal).symm
    · exact .inr rfl
    · exact .inl rfl
  · intro e
    have hab : a = b := by
      rcases e with rfl | rfl
      · rcases ga with rfl | rfl <;> rcases gb with e2 | e2
        · exact e2
        · exact absurd (by rw [e2] : outB xs g = outB xs (mateN ms b)) (fun e3 => mate_out hF mbl (by rw [← e3, (walkH_at hF ha).2, (walkH_at hF hb).2]))
        · exact absurd (by rw [e2] : outB xs (mateN ms a) = outB xs b) (fun e3 => mate_out hF mal (by rw [e3, (walkH_at hF ha).2, (walkH_at hF hb).2]))
        · rw [← mate_mt hF mal, e2, mate_mt hF mbl]
      · rcases gb with rfl | rfl
        · rcases ga with e2 | e2
          · exact absurd (by rw [e2] : outB xs (mateN ms h) = outB xs a) (fun e3 => mate_out hF hh (by rw [e3, (walkH_at hF ha).2, (walkH_at hF hb).2]))
          · rw [← mate_mt hF mal, ← e2, mate_mt hF hh]
        · rw [mate_mt hF mbl] at ga
          rcases ga with e2 | e2
          · exact e2.symm
          · exact absurd (by rw [e2] : outB xs b = outB xs (mateN ms a)) (fun e3 => mate_out hF mal (by rw [← e3, (walkH_at hF ha).2, (walkH_at hF hb).2]))
    subst hab
    rw [walkH_inj hF ha hb]
theorem labs_range {g : Nat} (hg : g < ms.length) : 1 ≤ (labs xs ms).getD g 0 ∧ (labs xs ms).getD g 0 ≤ 128 := by
  obtain ⟨k, h, hk, -, e⟩ := labs_at hF hg
  have hl := walkA_len hF
  have hc := cntO_four hF.sgn xs.length (Nat.le_refl _)
  unfold cntO at hc
  have h4 := hF.four
  have hn := hF.n64
  rw [h4, hc] at hl
  have := (List.getElem?_eq_some_iff.1 hk).1
  have e2 : (walkA xs ms).length = (walkH xs ms).length := rfl
  omega
theorem ok_mt {lb : List Int} (hL : LabOK ms lb) {h : Nat} (hh : h < ms.length) : Mt xs lb ms.length h (mateN ms h) :=
  ⟨mate_lt hF hh, mate_ne hF hh, (hL _ _ (mate_lt hF hh) hh).2 (.inr rfl), mate_out hF hh, fun g' h1 h2 h3 => ((hL g' h h1 hh).1 h3).resolve_left h2⟩
theorem ok_ma {lb : List Int} (hL : LabOK ms lb) : MA xs lb (4 * xs.length) := MR.ma fun h hh => ⟨mateN ms h, by
  have := ok_mt hF hL (h := h) (by rw [hF.four]; exact hh)
  rwa [hF.four] at this⟩
theorem ok_mtL {lb : List Int} (hL : LabOK ms lb) : mtL xs lb (4 * xs.length) = ms := by
  refine List.ext_getElem? fun h => ?_
  rcases Nat.lt_or_ge h ms.length with hh | hh
  · have := mtL_get hh (ok_mt hF hL hh)
    rw [hF.four] at this
    rw [this, mate_get hF hh]
  · rw [List.getElem?_eq_none (by rw [mtL_len, ← hF.four]; exact hh), List.getElem?_eq_none hh]
end
end Go.Proofs.YtehnalbdfnmphaaDoor
