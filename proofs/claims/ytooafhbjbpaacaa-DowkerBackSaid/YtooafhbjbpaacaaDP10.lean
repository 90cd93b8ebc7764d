/- The first signs of a code whose signs change: plain. -/
import Derived.Test.YtooafhbjbpaacaaDP4
import Derived.Test.YtooafhbjbpaacaaDP2
import Derived.Test.YtooafhbjbpaacaaD3
import Derived.Test.YtooafhbjbpaacaaDP9
namespace Go.Proofs.Ytooafhbjbpaacaa
open Go.Ab
set_option linter.unusedVariables false

theorem cands_of : ∀ (r p : List Int), (∀ x ∈ r, Sgn x) → p ++ r ∈ cands p r.length
  | [], p, _ => by simp [cands]
  | x :: r, p, h => by
    have ih := cands_of r (p ++ [x]) fun y hy => h y (.tail _ hy)
    rw [List.append_assoc, List.singleton_append] at ih
    simp only [List.length_cons, cands, List.mem_append]
    rcases h x (.head _) with rfl | rfl
    · exact .inl ih
    · exact .inr ih
theorem cands_iff {n : Nat} {q : List Int} : q ∈ cands [] n ↔ q.length = n ∧ ∀ x ∈ q, Sgn x := by
  constructor
  · intro h
    obtain ⟨a, _, c⟩ := cands_mem h
    exact ⟨by simpa using a, fun x hx => (c x hx).elim (fun h => by simp at h) id⟩
  · rintro ⟨rfl, h⟩
    simpa using cands_of q [] h
theorem Sgn.neg {x : Int} (h : Sgn x) : Sgn (-x) := by
  rcases h with rfl | rfl
  · exact .inr rfl
  · exact .inl rfl
theorem cands_flip {n : Nat} {T : Nat → Bool} {q : List Int} (h : q ∈ cands [] n) : flipL T q ∈ cands [] n := by
  rw [cands_iff] at h ⊢
  refine ⟨by rw [flip_len]; exact h.1, fun x hx => ?_⟩
  unfold flipL at hx
  obtain ⟨i, hi, rfl⟩ := List.mem_map.1 hx
  have hi : i < q.length := List.mem_range.1 hi
  have hs : Sgn (q.getD i 0) := by
    rw [List.getD_eq_getElem?_getD, List.getElem?_eq_getElem hi]
    exact h.2 _ (List.getElem_mem hi)
  split
  · exact hs.neg
  · exact hs
/-- Whether a code can be drawn does not depend on which strands pass over. -/
theorem none_flip {vs : List Int} (hg : Good vs) (T : Nat → Bool) : (∀ q ∈ cands [] vs.length, ¬ Pd vs q) ↔ ∀ q ∈ cands [] (flipL T vs).length, ¬ Pd (flipL T vs) q := by
  rw [flip_len]
  constructor
  · intro h q hq hp
    have hl := (cands_iff.1 hq).1
    have := mtD_flip (T := T) (good_flip T hg) (by rw [flip_len]; exact hl) hp
    rw [flip_flip] at this
    exact h _ (cands_flip hq) this
  · intro h q hq hp
    have hl := (cands_iff.1 hq).1
    exact h _ (cands_flip hq) (mtD_flip (T := T) hg hl hp)
theorem negneg_ln {vs : List Int} : (negL vs).length = vs.length := by simp [negL]
theorem good_neg {vs : List Int} (hg : Good vs) : Good (negL vs) := by
  rw [← flip_all]; exact good_flip _ hg
theorem pd_neg1 {vs q : List Int} (hg : Good vs) (hl : q.length = vs.length) (hp : Pd vs q) : Pd (negL vs) q := by
  have h1 := mtD_flip (T := fun _ => true) hg hl hp
  rw [flip_all, flip_all] at h1
  have h2 := mtD_neg (vs := negL vs) (xs := negL q) (by rw [negneg_ln]; exact hg.1) (by rw [negneg_ln, negneg_ln]; exact hl) h1
  rw [negL_neg] at h2
  exact h2
theorem pd_neg {vs q : List Int} (hg : Good vs) (hl : q.length = vs.length) : Pd (negL vs) q ↔ Pd vs q := by
  refine ⟨fun h => ?_, pd_neg1 hg hl⟩
  have := pd_neg1 (good_neg hg) (by rw [negneg_ln]; exact hl) h
  rwa [negL_neg] at this
theorem first_neg {vs L : List Int} (hg : Good vs) (h : FirstIs (Pd vs) (cands [] vs.length) L) : FirstIs (Pd (negL vs)) (cands [] (negL vs).length) L := by
  rw [negneg_ln]
  obtain ⟨A, B, x, y, z⟩ := h
  have hm : ∀ q, q ∈ A ∨ q = L → q.length = vs.length := fun q hq => by
    refine (cands_iff.1 (?_ : q ∈ cands [] vs.length)).1
    rw [x]
    rcases hq with hq | rfl
    · exact List.mem_append_left _ hq
    · simp
  exact ⟨A, B, x, (pd_neg hg (hm L (.inr rfl))).2 y, fun a ha hp => z a ha ((pd_neg hg (hm a (.inl ha))).1 hp)⟩
end Go.Proofs.Ytooafhbjbpaacaa


namespace Go.Proofs.Ytooafhbjbpaacaa
open Go.Ab
set_option linter.unusedVariables false
variable {vs xs xs' : List Int}

theorem back_k {n k : Nat} (hk : k < 2 * n) : ∃ j, j < 2 * n ∧ (j + 1) % (2 * n) = k := by
  by_cases h : k = 0
  · subst h; exact ⟨2 * n - 1, by omega, by rw [show 2 * n - 1 + 1 = 2 * n by omega, Nat.mod_self]⟩
  · exact ⟨k - 1, by omega, by rw [show k - 1 + 1 = k by omega, Nat.mod_eq_of_lt hk]⟩
theorem mtD_get (hg : Good vs) (hs : ∀ i, i < vs.length → Sgn (xs.getD i 0)) {h : Nat} (hh : h < 4 * vs.length) : (mtD vs xs)[h]? = some ((mateN (mtD vs xs) h : Nat) : Int) ∧ mateN (mtD vs xs) h < 4 * vs.length := by
  have key : ∀ m : Nat, (mtD vs xs).getD h 0 = (m : Int) → m < 4 * vs.length → (mtD vs xs)[h]? = some ((mateN (mtD vs xs) h : Nat) : Int) ∧ mateN (mtD vs xs) h < 4 * vs.length := fun m e hm => by
    have h1 : mateN (mtD vs xs) h = m := by unfold mateN; rw [e]; rfl
    rw [h1]
    refine ⟨?_, hm⟩
    rw [← e, List.getD_eq_getElem?_getD, List.getElem?_eq_getElem (by rw [mtD_len]; exact hh)]; rfl
  obtain ⟨k, hk, h1 | h1⟩ := half_of (xs := xs) hg hs hh
  · subst h1
    have hl : (k + 1) % (2 * vs.length) < 2 * vs.length := Nat.mod_lt _ (by omega)
    exact key _ (mtT_at hg hs (Nat.le_refl _) k hk).1 (oN_lt hg hl).2
  · obtain ⟨j, hj, rfl⟩ := back_k hk
    subst h1
    exact key _ (mtT_at hg hs (Nat.le_refl _) j hj).2 (oN_lt hg hj).1
theorem mtD_mates (hg : Good vs) (hs : ∀ i, i < vs.length → Sgn (xs.getD i 0)) : Mates (mtD vs xs) := by
  have := hg.2.1
  have hl := mtD_len vs xs
  exact ⟨by omega, by omega, fun h hh => ⟨_, (mtD_get hg hs (by omega)).1, by rw [hl]; exact (mtD_get hg hs (by omega)).2⟩⟩
theorem sh_mate (hg : Good vs) (hs : ∀ i, i < vs.length → Sgn (xs.getD i 0)) (hs' : ∀ i, i < vs.length → Sgn (xs'.getD i 0)) (hx : ∀ i, i < vs.length → xs.getD (nuS vs i) 0 = xs'.getD i 0) {h : Nat} (hh : h < 4 * vs.length) :
    mateN (mtD vs xs) (rnum (nuS vs) h) = rnum (nuS vs) (mateN (mtD (shL vs) xs') h) := by
  have hs2 : ∀ i, i < (shL vs).length → Sgn (xs'.getD i 0) := by rw [shL_len]; exact hs'
  have hg2 := shL_good hg
  obtain ⟨k, hk, h1 | h1⟩ := half_of (xs := xs') hg2 hs2 (h := h) (by rw [shL_len]; exact hh)
  · rw [shL_len] at hk
    subst h1
    have hl : (k + 1) % (2 * vs.length) < 2 * vs.length := Nat.mod_lt _ (by omega)
    have := (mate_o (xs := xs') hg2 hs2 (k := k) (by rw [shL_len]; exact hk)).1
    rw [shL_len] at this
    rw [this, (sh_pass hg hx hk).1, (sh_pass hg hx hl).2]
    exact (mate_o hg hs hl).1
  · rw [shL_len] at hk
    obtain ⟨j, hj, rfl⟩ := back_k hk
    subst h1
    have hl : (j + 1) % (2 * vs.length) < 2 * vs.length := Nat.mod_lt _ (by omega)
    have := (mate_o (xs := xs') hg2 hs2 (k := j) (by rw [shL_len]; exact hj)).2
    rw [shL_len] at this
    rw [this, (sh_pass hg hx hj).1, (sh_pass hg hx hl).2]
    exact (mate_o hg hs hl).2
/-- Signs of the old crossings and of the new ones. -/
noncomputable def toNew (vs q : List Int) : List Int := (List.range vs.length).map fun i => q.getD (nuS vs i) 0
def toOld (vs q : List Int) : List Int := (List.range vs.length).map fun c => q.getD (muS vs c) 0
theorem toNew_at {q : List Int} {i : Nat} (hi : i < vs.length) : (toNew vs q).getD i 0 = q.getD (nuS vs i) 0 := by simp [toNew, List.getD, hi]
theorem toOld_at {q : List Int} {i : Nat} (hi : i < vs.length) : (toOld vs q).getD i 0 = q.getD (muS vs i) 0 := by simp [toOld, List.getD, hi]
theorem sgn_of {q : List Int} {n : Nat} (h : q ∈ cands [] n) : q.length = n ∧ ∀ i, i < n → Sgn (q.getD i 0) := by
  obtain ⟨a, b⟩ := cands_iff.1 h
  refine ⟨a, fun i hi => ?_⟩
  rw [List.getD_eq_getElem?_getD, List.getElem?_eq_getElem (by omega)]
  exact b _ (List.getElem_mem (by omega))
theorem toNew_c (hg : Good vs) {q : List Int} (h : q ∈ cands [] vs.length) : toNew vs q ∈ cands [] vs.length := by
  rw [cands_iff]
  refine ⟨by simp [toNew], fun x hx => ?_⟩
  obtain ⟨i, hi, rfl⟩ := List.mem_map.1 hx
  exact (sgn_of h).2 _ (nuS_at hg (List.mem_range.1 hi)).1
theorem toOld_c (hg : Good vs) {q : List Int} (h : q ∈ cands [] vs.length) : toOld vs q ∈ cands [] vs.length := by
  rw [cands_iff]
  refine ⟨by simp [toOld], fun x hx => ?_⟩
  obtain ⟨i, hi, rfl⟩ := List.mem_map.1 hx
  exact (sgn_of h).2 _ (muS_lt hg (List.mem_range.1 hi))
theorem sh_ren (hg : Good vs) (h : xs ∈ cands [] vs.length) (h' : xs' ∈ cands [] vs.length) (hx : ∀ i, i < vs.length → xs.getD (nuS vs i) 0 = xs'.getD i 0) :
    Ren (nuS vs) (muS vs) xs' (mtD (shL vs) xs') xs (mtD vs xs) ∧ Ren (muS vs) (nuS vs) xs (mtD vs xs) xs' (mtD (shL vs) xs') := by
  obtain ⟨l1, s1⟩ := sgn_of h
  obtain ⟨l2, s2⟩ := sgn_of h'
  have hs2 : ∀ i, i < (shL vs).length → Sgn (xs'.getD i 0) := by rw [shL_len]; exact s2
  have m1 := mtD_len vs xs
  have m2 := mtD_len (shL vs) xs'
  rw [shL_len] at m2
  constructor
  · refine ⟨by omega, by omega, fun c hc => by rw [l2] at hc ⊢; exact (nuS_at hg hc).1, fun c hc => by rw [l2] at hc ⊢; exact muS_lt hg hc, fun c hc => mu_nuS hg (by omega), fun c hc => nu_muS hg (by omega), fun c hc => hx c (by omega), fun h hh => ?_⟩
    have hlt : rnum (nuS vs) h < 4 * vs.length := by
      have := (nuS_at hg (i := h / 4) (by omega)).1
      unfold rnum; omega
    rw [(mtD_get hg s1 hlt).1, sh_mate hg s1 s2 hx (by omega)]
  · refine ⟨by omega, by omega, fun c hc => by rw [l1] at hc ⊢; exact muS_lt hg hc, fun c hc => by rw [l1] at hc ⊢; exact (nuS_at hg hc).1, fun c hc => nu_muS hg (by omega), fun c hc => mu_nuS hg (by omega), fun c hc => ?_, fun h hh => ?_⟩
    · have := hx (muS vs c) (muS_lt hg (by omega))
      rw [nu_muS hg (by omega)] at this
      exact this.symm
    · have hmu := muS_lt hg (c := h / 4) (by omega)
      have hnm := nu_muS hg (c := h / 4) (by omega)
      have hlt : rnum (muS vs) h < 4 * vs.length := by unfold rnum; omega
      have hb : rnum (nuS vs) (rnum (muS vs) h) = h := by
        have e1 : rnum (muS vs) h / 4 = muS vs (h / 4) := rnum_div _ _
        have e2 : rnum (muS vs) h % 4 = h % 4 := rnum_mod _ _
        show 4 * nuS vs (rnum (muS vs) h / 4) + rnum (muS vs) h % 4 = h
        rw [e1, e2, hnm]; omega
      have hm := sh_mate hg s1 s2 hx hlt
      rw [hb] at hm
      obtain ⟨g1, g2⟩ := mtD_get (vs := shL vs) (xs := xs') (shL_good hg) hs2 (h := rnum (muS vs) h) (by rw [shL_len]; exact hlt)
      rw [shL_len] at g2
      rw [g1, hm]
      generalize mateN (mtD (shL vs) xs') (rnum (muS vs) h) = g at *
      have e1 : rnum (nuS vs) g / 4 = nuS vs (g / 4) := rnum_div _ _
      have e2 : rnum (nuS vs) g % 4 = g % 4 := rnum_mod _ _
      have : rnum (muS vs) (rnum (nuS vs) g) = g := by
        show 4 * muS vs (rnum (nuS vs) g / 4) + rnum (nuS vs) g % 4 = g
        rw [e1, e2, mu_nuS hg (by omega)]; omega
      rw [this]
theorem sh_pd (hg : Good vs) (h : xs ∈ cands [] vs.length) (h' : xs' ∈ cands [] vs.length) (hx : ∀ i, i < vs.length → xs.getD (nuS vs i) 0 = xs'.getD i 0) : Pd (shL vs) xs' ↔ Pd vs xs := by
  obtain ⟨R1, R2⟩ := sh_ren hg h h' hx
  obtain ⟨l1, s1⟩ := sgn_of h
  obtain ⟨l2, s2⟩ := sgn_of h'
  have c1 : Conn vs.length (mtD vs xs) := conn_o hg s1
  have c2 : Conn vs.length (mtD (shL vs) xs') := by
    have := conn_o (xs := xs') (shL_good hg) (by rw [shL_len]; exact s2)
    rwa [shL_len] at this
  have h1n := hg.1
  exact ⟨fun hp => R1.pv (by omega) (by rw [l2]; exact c2) (by rw [l2]; exact c1) hp, fun hp => R2.pv (by omega) (by rw [l1]; exact c1) (by rw [l1]; exact c2) hp⟩
theorem sh_none (hg : Good vs) : (∀ q ∈ cands [] vs.length, ¬ Pd vs q) ↔ ∀ q ∈ cands [] (shL vs).length, ¬ Pd (shL vs) q := by
  rw [shL_len]
  constructor
  · intro h q hq hp
    refine h _ (toOld_c hg hq) ((sh_pd hg (toOld_c hg hq) hq fun i hi => ?_).1 hp)
    rw [toOld_at (nuS_at hg hi).1, mu_nuS hg hi]
  · intro h q hq hp
    exact h _ (toNew_c hg hq) ((sh_pd hg hq (toNew_c hg hq) fun i hi => (toNew_at hi).symm).2 hp)
end Go.Proofs.Ytooafhbjbpaacaa

