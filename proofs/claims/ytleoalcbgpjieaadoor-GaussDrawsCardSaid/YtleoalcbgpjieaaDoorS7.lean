/- The mates of the code of a diagram are its own: plain. -/
import Derived.Test.YtleoalcbgpjieaaDoorS6
import Derived.Test.YtleoalcbgpjieaaDoorGE
namespace Go.Proofs.YtleoalcbgpjieaaDoor
open Go.Ab
set_option linter.unusedVariables false

theorem out_vis {xs ms : List Int} {l : Int} (hF : Front xs ms l) {h : Nat} (hh : h < ms.length) (ho : outB xs h = true) : outG xs (visH h) = h := by
  have e : ((h : Int) / 4).toNat = h / 4 := by omega
  unfold outG visH
  simp only [e, decide_eq_true_eq]
  rcases out_slot hF hh ho with h1 | ⟨h1, h2⟩ | ⟨h1, h2⟩
  · rw [if_neg (by omega)]; omega
  · rw [if_pos (by omega), if_pos h2]; omega
  · rw [if_pos (by omega), if_neg (by rw [h2]; decide)]; omega
theorem in_vis {xs ms : List Int} {l : Int} (hF : Front xs ms l) {h : Nat} (hh : h < ms.length) (ho : outB xs h = true) : inG xs (visH h) = turnN h 2 := by
  have e : ((h : Int) / 4).toNat = h / 4 := by omega
  unfold inG visH turnN
  simp only [e, decide_eq_true_eq]
  rcases out_slot hF hh ho with h1 | ⟨h1, h2⟩ | ⟨h1, h2⟩
  · rw [if_neg (by omega)]; omega
  · rw [if_pos (by omega), if_pos h2]; omega
  · rw [if_pos (by omega), if_neg (by rw [h2]; decide)]; omega
theorem in_psi {xs ms : List Int} {l : Int} (hF : Front xs ms l) {h : Nat} (hh : h < ms.length) (ho : outB xs h = true) : inG xs (visH (psi ms h)) = mateN ms h := by
  rw [in_vis hF (hF.mates.psi_lt hh) (psi_out hF hh ho)]
  unfold psi mateN turnN
  omega

/-- Both ends of the edges of some half-edges are written. -/
def wr1 (ms A : List Int) (h : Nat) : List Int := (A.set h (mateN ms h : Nat)).set (mateN ms h) (h : Nat)
def wrA (ms : List Int) (W : List Nat) (A : List Int) : List Int := W.foldl (wr1 ms) A
theorem wr1_len (ms A : List Int) (h : Nat) : (wr1 ms A h).length = A.length := by simp [wr1]
theorem wrA_len (ms : List Int) : ∀ (W : List Nat) (A : List Int), (wrA ms W A).length = A.length
  | [], A => rfl
  | h :: W, A => by
    show (wrA ms W (wr1 ms A h)).length = _
    rw [wrA_len ms W, wr1_len]
theorem wrA_app (ms : List Int) (V W : List Nat) (A : List Int) : wrA ms (V ++ W) A = wrA ms W (wrA ms V A) := List.foldl_append
theorem mate_get {xs ms : List Int} {l : Int} (hF : Front xs ms l) {h : Nat} (hh : h < ms.length) : ms[h]? = some ((mateN ms h : Nat) : Int) ∧ mateN ms h < ms.length ∧ mateN ms (mateN ms h) = h := by
  obtain ⟨m, h1, h2, h3, h4, h5⟩ := hF.ok h hh
  have e : mateN ms h = m := by unfold mateN; rw [getD_at h1]; simp
  have e2 : mateN ms m = h := by unfold mateN; rw [getD_at h4]; simp
  rw [e, e2]
  exact ⟨h1, h2, rfl⟩
theorem wr1_ok {xs ms : List Int} {l : Int} (hF : Front xs ms l) {A : List Int} (hA : A.length = ms.length) {h j : Nat} (hh : h < ms.length) (hj : j < ms.length) (ho : A.getD j 0 = ms.getD j 0 ∨ j = h ∨ mateN ms j = h) : (wr1 ms A h).getD j 0 = ms.getD j 0 := by
  obtain ⟨h1, h2, h3⟩ := mate_get hF hh
  obtain ⟨g1, g2, g3⟩ := mate_get hF hj
  have em : ms.getD j 0 = (mateN ms j : Nat) := by simp [List.getD, g1]
  unfold wr1
  rw [getD_set (by rw [List.length_set, hA]; exact h2), getD_set (by rw [hA]; exact hh), em]
  by_cases c1 : j = mateN ms h
  · rw [if_pos c1, c1, h3]
  · rw [if_neg c1]
    by_cases c2 : j = h
    · rw [if_pos c2, c2]
    · rw [if_neg c2]
      rcases ho with ho | ho | ho
      · rw [ho, em]
      · exact absurd ho c2
      · exact absurd (by rw [← ho, g3]) c1
theorem wrA_ok {xs ms : List Int} {l : Int} (hF : Front xs ms l) {j : Nat} (hj : j < ms.length) : ∀ {W : List Nat} {A : List Int}, A.length = ms.length → (∀ h ∈ W, h < ms.length) → (A.getD j 0 = ms.getD j 0 ∨ j ∈ W ∨ mateN ms j ∈ W) → (wrA ms W A).getD j 0 = ms.getD j 0
  | [], A, hA, hW, ho => by
    rcases ho with ho | ho | ho
    · exact ho
    · cases ho
    · cases ho
  | h :: W, A, hA, hW, ho => by
    show (wrA ms W (wr1 ms A h)).getD j 0 = _
    have hh := hW h (by simp)
    refine wrA_ok hF hj (by rw [wr1_len, hA]) (fun g hg => hW g (by simp [hg])) ?_
    have key := fun ho => wr1_ok hF hA hh hj ho
    rcases ho with ho | ho | ho
    · exact .inl (key (.inl ho))
    · rcases List.mem_cons.1 ho with e | e
      · exact .inl (key (.inr (.inl e)))
      · exact .inr (.inl e)
    · rcases List.mem_cons.1 ho with e | e
      · exact .inl (key (.inr (.inr e)))
      · exact .inr (.inr e)
/-- The next one of a cycle. -/
theorem cyc_next {f : Nat → Nat} {s : Nat} {L : List Nat} (hL : Cyc f s L) {k x : Nat} (hk : L[k]? = some x) : L[(k + 1) % L.length]? = some (f x) := by
  obtain ⟨m, rfl, h2, h3⟩ := hL
  have hl := (List.getElem?_eq_some_iff.1 hk).1
  rw [orbN_len] at hl ⊢
  unfold orbN at hk ⊢
  rw [List.getElem?_map, List.getElem?_range (by omega)] at hk
  have hx : it f k s = x := by simpa using hk
  rw [List.getElem?_map, List.getElem?_range (Nat.mod_lt _ (by omega)), Option.map_some]
  by_cases e : k = m
  · subst e
    rw [Nat.mod_self, ← hx]
    show some s = some (it f (k + 1) s)
    rw [h2]
  · rw [Nat.mod_eq_of_lt (by omega), ← hx]; rfl
theorem mtC_wr {xs ms : List Int} {l : Int} (hF : Front xs ms l) {s : Nat} {L : List Nat} (hL : Cyc (psi ms) s L) (ho : ∀ h ∈ L, h < ms.length ∧ outB xs h = true) (A : List Int) : ∀ k, k ≤ L.length → mtC xs (visL L) k A = wrA ms (L.take k) A
  | 0, _ => by simp [mtC, wrA]
  | k + 1, hk => by
    obtain ⟨x, hx⟩ : ∃ x, L[k]? = some x := ⟨_, List.getElem?_eq_getElem (by omega)⟩
    have hn := cyc_next hL hx
    obtain ⟨x1, x2⟩ := ho x (List.mem_of_getElem? hx)
    have g1 : (visL L).getD k (0, false) = visH x := by rw [List.getD_eq_getElem?_getD, visL_at hx]; rfl
    have g2 : (visL L).getD ((k + 1) % (visL L).length) (0, false) = visH (psi ms x) := by rw [visL_len, List.getD_eq_getElem?_getD, visL_at hn]; rfl
    rw [mtC, g1, g2, mtC_wr hF hL ho A k (by omega), take_snoc hx, wrA_app, out_vis hF x1 x2, in_psi hF x1 x2]
    rfl
theorem mtG_wr {xs ms : List Int} {l : Int} (hF : Front xs ms l) {Ls : List (List Nat)} (hC : Cov xs ms Ls) : ∀ i, i ≤ Ls.length → mtG xs (codeC Ls) i = wrA ms (Ls.take i).flatten (List.replicate (4 * xs.length) 0)
  | 0, _ => by simp [mtG, wrA]
  | i + 1, hi => by
    obtain ⟨L, hL⟩ : ∃ L, Ls[i]? = some L := ⟨_, List.getElem?_eq_getElem (by omega)⟩
    have hmem := List.mem_of_getElem? hL
    have hg : (codeC Ls).getD i [] = visL L := by rw [List.getD_eq_getElem?_getD, codeC, List.getElem?_map, hL]; rfl
    obtain ⟨s, hs⟩ := hC.cyc L hmem
    have ho : ∀ h ∈ L, h < ms.length ∧ outB xs h = true := fun h hh => (hC.mem h).1 (List.mem_flatten.2 ⟨L, hmem, hh⟩)
    rw [mtG, hg, visL_len, mtG_wr hF hC i (by omega), mtC_wr hF hs ho _ _ (Nat.le_refl _), List.take_length, ← wrA_app, take_snoc hL, List.flatten_append]
    simp
/-- The mates of the code are the diagram's. -/
theorem mtG_cov {xs ms : List Int} {l : Int} (hF : Front xs ms l) {Ls : List (List Nat)} (hC : Cov xs ms Ls) : mtG xs (codeC Ls) (codeC Ls).length = ms := by
  have hl : (codeC Ls).length = Ls.length := by simp [codeC]
  have h4 := hF.four
  rw [hl, mtG_wr hF hC _ (Nat.le_refl _), List.take_length]
  have hW : ∀ h ∈ Ls.flatten, h < ms.length := fun h hh => ((hC.mem h).1 hh).1
  have hlen : (wrA ms Ls.flatten (List.replicate (4 * xs.length) 0)).length = ms.length := by rw [wrA_len]; simp [h4]
  refine List.ext_getElem? fun j => ?_
  by_cases hj : j < ms.length
  · have hin : j ∈ Ls.flatten ∨ mateN ms j ∈ Ls.flatten := by
      obtain ⟨m, h1, h2, h3, h4, h5⟩ := hF.ok j hj
      have e : mateN ms j = m := by unfold mateN; rw [getD_at h1]; simp
      cases ho : outB xs j with
      | true => exact .inl ((hC.mem j).2 ⟨hj, ho⟩)
      | false =>
        rw [e]
        refine .inr ((hC.mem m).2 ⟨h2, ?_⟩)
        cases hm : outB xs m with
        | true => rfl
        | false => rw [ho, hm] at h5; exact absurd rfl h5
    have := wrA_ok hF hj (A := List.replicate (4 * xs.length) 0) (by simp [h4]) hW (.inr hin)
    rw [List.getElem?_eq_getElem (by omega), List.getElem?_eq_getElem hj]
    simp only [List.getD_eq_getElem?_getD, List.getElem?_eq_getElem hj, Option.getD_some] at this
    rw [List.getElem?_eq_getElem (by omega)] at this
    simpa using this
  · rw [List.getElem?_eq_none (by omega), List.getElem?_eq_none (by omega)]
theorem mtG_ms {xs ms : List Int} {l : Int} (hF : Front xs ms l) : mtG xs (codeC (strs xs ms)) (codeC (strs xs ms)).length = ms := mtG_cov hF (strs_cov hF)
end Go.Proofs.YtleoalcbgpjieaaDoor
