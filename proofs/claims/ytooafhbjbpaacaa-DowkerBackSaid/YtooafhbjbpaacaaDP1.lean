/- The mates of a Dowker code with signs; its mirror image: plain. -/
import Derived.Test.YtooafhbjbpaacaaM1
namespace Go.Proofs.Ytooafhbjbpaacaa
open Go.Ab
set_option linter.unusedVariables false

/-- Where a crossing is passed over, and under. -/
def ovD (v : Int) (i : Nat) : Nat := if v < 0 then v.natAbs - 1 else 2 * i
def unD (v : Int) (i : Nat) : Nat := if v < 0 then 2 * i else v.natAbs - 1
/-- The half-edges by which the passages come in, as far as the crossings i. -/
def inD (vs xs : List Int) : Nat → List Int
  | 0 => List.replicate (2 * vs.length) 0
  | i + 1 => ((inD vs xs i).set (unD (vs.getD i 0) i) ((4 * i : Nat) : Int)).set (ovD (vs.getD i 0) i) (if xs.getD i 0 = -1 then ((4 * i + 1 : Nat) : Int) else ((4 * i + 3 : Nat) : Int))
def outD (vs xs : List Int) : Nat → List Int
  | 0 => List.replicate (2 * vs.length) 0
  | i + 1 => ((outD vs xs i).set (unD (vs.getD i 0) i) ((4 * i + 2 : Nat) : Int)).set (ovD (vs.getD i 0) i) (if xs.getD i 0 = -1 then ((4 * i + 3 : Nat) : Int) else ((4 * i + 1 : Nat) : Int))
/-- The mates, as far as the passages k. -/
def mtT (n : Nat) (I O : List Int) : Nat → List Int
  | 0 => List.replicate (4 * n) 0
  | k + 1 => ((mtT n I O k).set (O.getD k 0).toNat (I.getD ((k + 1) % (2 * n)) 0)).set (I.getD ((k + 1) % (2 * n)) 0).toNat (O.getD k 0)
def mtD (vs xs : List Int) : List Int := mtT vs.length (inD vs xs vs.length) (outD vs xs vs.length) (2 * vs.length)
theorem inD_len (vs xs : List Int) : ∀ i, (inD vs xs i).length = 2 * vs.length
  | 0 => by simp [inD]
  | i + 1 => by simp [inD, inD_len vs xs i]
theorem outD_len (vs xs : List Int) : ∀ i, (outD vs xs i).length = 2 * vs.length
  | 0 => by simp [outD]
  | i + 1 => by simp [outD, outD_len vs xs i]
theorem mtT_len (n : Nat) (I O : List Int) : ∀ k, (mtT n I O k).length = 4 * n
  | 0 => by simp [mtT]
  | k + 1 => by simp [mtT, mtT_len n I O k]
theorem mtD_len (vs xs : List Int) : (mtD vs xs).length = 4 * vs.length := mtT_len _ _ _ _

/-! ### The mirror image -/
/-- The slots, the other way round. -/
def mu (h : Nat) : Nat := 4 * (h / 4) + (4 - h % 4) % 4
theorem mu_mu (h : Nat) : mu (mu h) = h := by unfold mu; omega
theorem mu_div (h : Nat) : mu h / 4 = h / 4 := by unfold mu; omega
theorem mu_turn (h : Nat) : turnN (mu h) 3 = mu (turnN h 1) := by unfold mu turnN; omega
def muI (x : Int) : Int := ((mu x.toNat : Nat) : Int)
theorem muI_nat (h : Nat) : muI (h : Int) = ((mu h : Nat) : Int) := by simp [muI]
/-- All signs changed. -/
def negL (xs : List Int) : List Int := xs.map fun x => -x
theorem negL_getD {xs : List Int} (i : Nat) : (negL xs).getD i 0 = -(xs.getD i 0) := by
  unfold negL
  rw [List.getD_eq_getElem?_getD, List.getD_eq_getElem?_getD, List.getElem?_map]
  cases xs[i]? <;> simp
theorem inD_mu {vs xs : List Int} (hs : ∀ i, i < vs.length → Sgn (xs.getD i 0)) : ∀ i, i ≤ vs.length → inD vs (negL xs) i = (inD vs xs i).map muI
  | 0, _ => by simp [inD, muI, mu]
  | i + 1, hi => by
    have ih := inD_mu hs i (by omega)
    rw [inD, inD, ih, List.map_set, List.map_set, muI_nat, negL_getD]
    have e0 : mu (4 * i) = 4 * i := by unfold mu; omega
    have e1 : mu (4 * i + 1) = 4 * i + 3 := by unfold mu; omega
    have e3 : mu (4 * i + 3) = 4 * i + 1 := by unfold mu; omega
    rw [e0]
    congr 1
    rcases hs i (by omega) with h | h
    · rw [h, if_pos rfl, if_neg (by decide), muI_nat, e3]
    · rw [h, if_neg (by decide), if_pos rfl, muI_nat, e1]
theorem outD_mu {vs xs : List Int} (hs : ∀ i, i < vs.length → Sgn (xs.getD i 0)) : ∀ i, i ≤ vs.length → outD vs (negL xs) i = (outD vs xs i).map muI
  | 0, _ => by simp [outD, muI, mu]
  | i + 1, hi => by
    have ih := outD_mu hs i (by omega)
    rw [outD, outD, ih, List.map_set, List.map_set, muI_nat, negL_getD]
    have e0 : mu (4 * i + 2) = 4 * i + 2 := by unfold mu; omega
    have e1 : mu (4 * i + 1) = 4 * i + 3 := by unfold mu; omega
    have e3 : mu (4 * i + 3) = 4 * i + 1 := by unfold mu; omega
    rw [e0]
    congr 1
    rcases hs i (by omega) with h | h
    · rw [h, if_pos rfl, if_neg (by decide), muI_nat, e1]
    · rw [h, if_neg (by decide), if_pos rfl, muI_nat, e3]
theorem getD_map0 (L : List Int) (k : Nat) : (L.map muI).getD k 0 = muI (L.getD k 0) := by
  rw [List.getD_eq_getElem?_getD, List.getD_eq_getElem?_getD, List.getElem?_map]
  cases L[k]? <;> simp [muI, mu]
theorem rep0 (m k : Nat) : (List.replicate m (0 : Int)).getD k 0 = 0 := by
  simp only [List.getD_eq_getElem?_getD, List.getElem?_replicate]
  split <;> rfl
theorem mtT_mu {n : Nat} {I O : List Int} (hI : ∀ k, 0 ≤ I.getD k 0 ∧ I.getD k 0 < (4 * n : Nat)) (hO : ∀ k, 0 ≤ O.getD k 0 ∧ O.getD k 0 < (4 * n : Nat)) : ∀ k h, h < 4 * n → (mtT n (I.map muI) (O.map muI) k).getD (mu h) 0 = muI ((mtT n I O k).getD h 0)
  | 0, h, hh => by
    rw [mtT, mtT, rep0, rep0]; rfl
  | k + 1, h, hh => by
    have ih := mtT_mu hI hO k h hh
    have a1 := hI ((k + 1) % (2 * n))
    have a2 := hO k
    obtain ⟨a, ha⟩ : ∃ a : Nat, I.getD ((k + 1) % (2 * n)) 0 = (a : Int) := ⟨(I.getD ((k + 1) % (2 * n)) 0).toNat, by omega⟩
    obtain ⟨b, hb⟩ : ∃ b : Nat, O.getD k 0 = (b : Int) := ⟨(O.getD k 0).toNat, by omega⟩
    rw [ha] at a1
    rw [hb] at a2
    have ma : mu a < 4 * n := by unfold mu; omega
    have mb : mu b < 4 * n := by unfold mu; omega
    have inj : ∀ {x y : Nat}, mu x = mu y ↔ x = y := fun {x y} => ⟨fun e => by rw [← mu_mu x, e, mu_mu], fun e => by rw [e]⟩
    rw [mtT, mtT, getD_map0, getD_map0, ha, hb, muI_nat, muI_nat]
    simp only [Int.toNat_natCast]
    rw [getD_set (by rw [List.length_set, mtT_len]; exact ma), getD_set (by rw [mtT_len]; exact mb), getD_set (by rw [List.length_set, mtT_len]; omega), getD_set (by rw [mtT_len]; omega), ih]
    by_cases h1 : h = a
    · rw [if_pos (inj.2 h1), if_pos h1, muI_nat]
    · rw [if_neg (fun e => h1 (inj.1 e)), if_neg h1]
      by_cases h2 : h = b
      · rw [if_pos (inj.2 h2), if_pos h2, muI_nat]
      · rw [if_neg (fun e => h2 (inj.1 e)), if_neg h2]
theorem inD_rng {vs xs : List Int} : ∀ i, i ≤ vs.length → ∀ k, 0 ≤ (inD vs xs i).getD k 0 ∧ (inD vs xs i).getD k 0 < ((4 * vs.length : Nat) : Int) ∨ (inD vs xs i).getD k 0 = 0
  | 0, _, k => .inr (rep0 _ _)
  | i + 1, hi, k => by
    have ih := inD_rng (vs := vs) (xs := xs) i (by omega) k
    have key : ∀ (L : List Int) (j : Nat) (x : Int), (L.getD k 0 = (L.set j x).getD k 0) ∨ (L.set j x).getD k 0 = x := fun L j x => by
      simp only [List.getD_eq_getElem?_getD, List.getElem?_set]
      by_cases h1 : j = k
      · subst h1
        rw [if_pos rfl]
        by_cases h2 : j < L.length
        · rw [if_pos h2]; exact .inr rfl
        · rw [if_neg h2, List.getElem?_eq_none (by omega)]; exact .inl rfl
      · rw [if_neg h1]; exact .inl rfl
    rw [inD]
    rcases key ((inD vs xs i).set (unD (vs.getD i 0) i) ((4 * i : Nat) : Int)) (ovD (vs.getD i 0) i) (if xs.getD i 0 = -1 then ((4 * i + 1 : Nat) : Int) else ((4 * i + 3 : Nat) : Int)) with h | h
    · rw [← h]
      rcases key (inD vs xs i) (unD (vs.getD i 0) i) ((4 * i : Nat) : Int) with h2 | h2
      · rw [← h2]; exact ih
      · rw [h2]; exact .inl (by omega)
    · rw [h]
      refine .inl ?_
      split <;> omega
theorem outD_rng {vs xs : List Int} : ∀ i, i ≤ vs.length → ∀ k, 0 ≤ (outD vs xs i).getD k 0 ∧ (outD vs xs i).getD k 0 < ((4 * vs.length : Nat) : Int) ∨ (outD vs xs i).getD k 0 = 0
  | 0, _, k => .inr (rep0 _ _)
  | i + 1, hi, k => by
    have ih := outD_rng (vs := vs) (xs := xs) i (by omega) k
    have key : ∀ (L : List Int) (j : Nat) (x : Int), (L.getD k 0 = (L.set j x).getD k 0) ∨ (L.set j x).getD k 0 = x := fun L j x => by
      simp only [List.getD_eq_getElem?_getD, List.getElem?_set]
      by_cases h1 : j = k
      · subst h1
        rw [if_pos rfl]
        by_cases h2 : j < L.length
        · rw [if_pos h2]; exact .inr rfl
        · rw [if_neg h2, List.getElem?_eq_none (by omega)]; exact .inl rfl
      · rw [if_neg h1]; exact .inl rfl
    rw [outD]
    rcases key ((outD vs xs i).set (unD (vs.getD i 0) i) ((4 * i + 2 : Nat) : Int)) (ovD (vs.getD i 0) i) (if xs.getD i 0 = -1 then ((4 * i + 3 : Nat) : Int) else ((4 * i + 1 : Nat) : Int)) with h | h
    · rw [← h]
      rcases key (outD vs xs i) (unD (vs.getD i 0) i) ((4 * i + 2 : Nat) : Int) with h2 | h2
      · rw [← h2]; exact ih
      · rw [h2]; exact .inl (by omega)
    · rw [h]
      refine .inl ?_
      split <;> omega
theorem outB_mu {xs : List Int} {h : Nat} (hs : Sgn (xs.getD (h / 4) 0)) : outB (negL xs) (mu h) = outB xs h := by
  unfold outB
  rw [mu_div, negL_getD]
  have h4 : h % 4 = 0 ∨ h % 4 = 1 ∨ h % 4 = 2 ∨ h % 4 = 3 := by omega
  rcases h4 with h1 | h1 | h1 | h1
  all_goals
    have h2 : mu h % 4 = (4 - h % 4) % 4 := by unfold mu; omega
    rw [h2, h1]
    rcases hs with h3 | h3 <;> rw [h3] <;> decide
/-- The signs changed: the mirror image. -/
theorem mtD_neg {vs xs : List Int} (hn : 0 < vs.length) (hl : xs.length = vs.length) (hV : PV xs (mtD vs xs) 0) : PV (negL xs) (mtD vs (negL xs)) 0 := by
  have hF := hV.1
  have hs : ∀ i, i < vs.length → Sgn (xs.getD i 0) := fun i hi => by
    have : xs[i]? = some (xs.getD i 0) := by simp [List.getD, show i < xs.length by omega]
    exact hF.sgn _ (List.mem_of_getElem? this)
  have hlen := mtD_len vs xs
  have key : ∀ h, h < 4 * vs.length → (mtD vs (negL xs)).getD (mu h) 0 = muI ((mtD vs xs).getD h 0) := fun h hh => by
    unfold mtD
    rw [inD_mu hs _ (Nat.le_refl _), outD_mu hs _ (Nat.le_refl _)]
    refine mtT_mu (fun k => ?_) (fun k => ?_) _ h hh
    · rcases inD_rng (xs := xs) _ (Nat.le_refl vs.length) k with h | h
      · exact h
      · rw [h]; omega
    · rcases outD_rng (xs := xs) _ (Nat.le_refl vs.length) k with h | h
      · exact h
      · rw [h]; omega
  have R : Cor 1 mu xs (mtD vs xs) (negL xs) (mtD vs (negL xs)) := by
    refine ⟨by simp [negL], by rw [mtD_len, mtD_len], fun x hx => ?_, mu_div, fun a b e => by rw [← mu_mu a, e, mu_mu], fun h hh => ⟨mu h, by rw [hlen] at hh ⊢; unfold mu; omega, mu_mu h⟩, mu_turn, fun h hh => ?_, fun h hh => ?_⟩
    · obtain ⟨y, hy, rfl⟩ := List.mem_map.1 hx
      rcases hF.sgn y hy with h | h
      · exact .inr (by rw [h])
      · exact .inl (by rw [h]; rfl)
    · have h1 := key h (by omega)
      obtain ⟨g1, g2, _⟩ := hF.mateg hh
      rw [getD_at g1, muI_nat] at h1
      have hm : mu h < (mtD vs (negL xs)).length := by rw [mtD_len]; rw [hlen] at hh; unfold mu; omega
      rw [List.getD_eq_getElem?_getD, List.getElem?_eq_getElem hm] at h1
      rw [List.getElem?_eq_getElem hm]
      simpa using h1
    · obtain ⟨g1, g2, _⟩ := hF.mateg hh
      rw [outB_mu (hs _ (by omega)), outB_mu (hs _ (by omega))]
  exact R.pv1 hV
end Go.Proofs.Ytooafhbjbpaacaa
