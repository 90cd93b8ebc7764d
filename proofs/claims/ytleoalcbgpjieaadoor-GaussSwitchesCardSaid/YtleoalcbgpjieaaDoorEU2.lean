/- Faces and crossings of a part: F <= V + 2, and F and V differ by an even number: plain. -/
import Derived.Test.YtleoalcbgpjieaaDoorEU1
import Derived.Test.YtleoalcbgpjieaaDoorV4
namespace Go.Proofs.YtleoalcbgpjieaaDoor
set_option linter.unusedVariables false

/-! ### All half-edges of a crossing are turned -/
def wC (c : Nat) : List (Nat × Nat) := [(4 * c, 4 * c + 1), (4 * c, 4 * c + 2), (4 * c, 4 * c + 3)]
theorem cmp_app (f : Nat → Nat) (A B : List (Nat × Nat)) : cmpS f (A ++ B) = cmpS (cmpS f A) B := List.foldl_append
theorem cmp_wC (f : Nat → Nat) (c x : Nat) : cmpS f (wC c) x = f (if x / 4 = c then turnN x 3 else x) := by
  show f (swp (4 * c) (4 * c + 1) (swp (4 * c) (4 * c + 2) (swp (4 * c) (4 * c + 3) x))) = _
  congr 1
  by_cases h : x / 4 = c
  · rw [if_pos h]
    have h4 : x % 4 = 0 ∨ x % 4 = 1 ∨ x % 4 = 2 ∨ x % 4 = 3 := by omega
    unfold turnN swp
    rcases h4 with h4 | h4 | h4 | h4
    · rw [if_pos (show x = 4 * c by omega), if_neg (show ¬ 4 * c + 3 = 4 * c by omega), if_neg (show ¬ 4 * c + 3 = 4 * c + 2 by omega), if_neg (show ¬ 4 * c + 3 = 4 * c by omega), if_neg (show ¬ 4 * c + 3 = 4 * c + 1 by omega)]; omega
    · rw [if_neg (show ¬ x = 4 * c by omega), if_neg (show ¬ x = 4 * c + 3 by omega), if_neg (show ¬ x = 4 * c by omega), if_neg (show ¬ x = 4 * c + 2 by omega), if_neg (show ¬ x = 4 * c by omega), if_pos (show x = 4 * c + 1 by omega)]; omega
    · rw [if_neg (show ¬ x = 4 * c by omega), if_neg (show ¬ x = 4 * c + 3 by omega), if_neg (show ¬ x = 4 * c by omega), if_pos (show x = 4 * c + 2 by omega), if_pos rfl]; omega
    · rw [if_neg (show ¬ x = 4 * c by omega), if_pos (show x = 4 * c + 3 by omega), if_pos rfl, if_neg (show ¬ 4 * c + 2 = 4 * c by omega), if_neg (show ¬ 4 * c + 2 = 4 * c + 1 by omega)]; omega
  · rw [if_neg h]
    rw [swp_o (a := 4 * c) (b := 4 * c + 3) (x := x) (by omega) (by omega), swp_o (a := 4 * c) (b := 4 * c + 2) (x := x) (by omega) (by omega), swp_o (a := 4 * c) (b := 4 * c + 1) (x := x) (by omega) (by omega)]
theorem cmp_turn : ∀ (Cs : List Nat) (f : Nat → Nat), Cs.Nodup → (∀ x, x / 4 ∈ Cs → f x = x) → ∀ x, cmpS f (Cs.flatMap wC) x = if x / 4 ∈ Cs then turnN x 3 else f x
  | [], f, _, _, x => by rw [if_neg (by simp)]; rfl
  | c :: Cs, f, hn, hf, x => by
    obtain ⟨h1, h2⟩ := List.nodup_cons.1 hn
    have ht : ∀ y, turnN y 3 / 4 = y / 4 := fun y => by unfold turnN; omega
    rw [List.flatMap_cons, cmp_app, cmp_turn Cs _ h2 (fun y hy => by
      rw [cmp_wC, if_neg (fun e => h1 (by rw [← e]; exact hy)), hf y (by simp [hy])]) x, cmp_wC]
    by_cases hx : x / 4 ∈ Cs
    · rw [if_pos hx, if_pos (by simp [hx])]
    · rw [if_neg hx]
      by_cases hc : x / 4 = c
      · rw [if_pos hc, if_pos (by simp [hc]), hf _ (by rw [ht, hc]; simp)]
      · rw [if_neg hc, if_neg (by simp [hc, hx])]
/-! ### All edges -/
theorem cmp_mate (ms : List Int) (hm : ∀ x, x < ms.length → mateN ms x < ms.length ∧ mateN ms (mateN ms x) = x) (g : Nat → Nat) : ∀ (D : List Nat) (f : Nat → Nat), D.Nodup → (∀ h ∈ D, h < ms.length ∧ h < mateN ms h) → (∀ x, x < ms.length → (x ∈ D ∨ mateN ms x ∈ D) → f x = g x) →
    ∀ x, x < ms.length → cmpS f (D.map fun h => (h, mateN ms h)) x = if x ∈ D ∨ mateN ms x ∈ D then g (mateN ms x) else f x
  | [], f, _, _, _, x, _ => by rw [if_neg (by simp)]; rfl
  | h :: D, f, hn, hd, hf, x, hx => by
    obtain ⟨h1, h2⟩ := List.nodup_cons.1 hn
    obtain ⟨h3, h4⟩ := hd h (by simp)
    obtain ⟨m1, m2⟩ := hm h h3
    have hno : mateN ms h ∉ D := fun hmem => by
      have := (hd _ (List.mem_cons_of_mem h hmem)).2
      rw [m2] at this; omega
    have far : ∀ y, y < ms.length → (y ∈ D ∨ mateN ms y ∈ D) → y ≠ h ∧ y ≠ mateN ms h := by
      intro y hy hyD
      refine ⟨fun e => ?_, fun e => ?_⟩
      · subst e
        rcases hyD with hyD | hyD
        · exact h1 hyD
        · exact hno hyD
      · subst e
        rcases hyD with hyD | hyD
        · exact hno hyD
        · rw [m2] at hyD; exact h1 hyD
    show cmpS (fun y => f (swp h (mateN ms h) y)) (D.map fun h => (h, mateN ms h)) x = _
    rw [cmp_mate ms hm g D _ h2 (fun y hy => hd y (by simp [hy])) (fun y hy hyD => by
      obtain ⟨a, b⟩ := far y hy hyD
      rw [swp_o a b, hf y hy (hyD.imp (fun q => by simp [q]) (fun q => by simp [q]))]) x hx]
    by_cases hxD : x ∈ D ∨ mateN ms x ∈ D
    · rw [if_pos hxD, if_pos (hxD.imp (fun q => by simp [q]) (fun q => by simp [q]))]
    · rw [if_neg hxD]
      by_cases e1 : x = h
      · subst e1
        rw [swp_a, if_pos (by simp), hf _ m1 (.inr (by rw [m2]; simp))]
      · by_cases e2 : x = mateN ms h
        · subst e2
          rw [swp_b, if_pos (.inr (by rw [m2]; simp)), hf h h3 (.inl (by simp)), m2]
        · rw [swp_o e1 e2, if_neg]
          rintro (q | q)
          · rcases List.mem_cons.1 q with q | q
            · exact e1 q
            · exact hxD (.inl q)
          · rcases List.mem_cons.1 q with q | q
            · exact e2 (by rw [← q, (hm x hx).2])
            · exact hxD (.inr q)
/-! ### Cycles and orbits -/
theorem it_one (f : Nat → Nat) (k x : Nat) : it f (k + 1) x = it f k (f x) := it_add f x k 1
theorem ch_reach {f : Nat → Nat} {z : Nat} : ∀ {A : List Nat} {x : Nat}, Ch f x A z → ∀ u ∈ A, ∃ k, it f k x = u
  | [], x, _, u, hu => by simp at hu
  | y :: A, x, ⟨h1, h2⟩, u, hu => by
    rcases List.mem_cons.1 hu with rfl | hu
    · exact ⟨1, h1⟩
    · obtain ⟨k, hk⟩ := ch_reach h2 u hu
      exact ⟨k + 1, by rw [it_one, h1]; exact hk⟩
theorem ch_next {f : Nat → Nat} {z : Nat} : ∀ {A : List Nat} {x : Nat}, Ch f x A z → ∀ u ∈ x :: A, f u ∈ A ∨ f u = z
  | [], x, h, u, hu => by
    have : u = x := by simpa using hu
    rw [this]; exact .inr h
  | y :: A, x, ⟨h1, h2⟩, u, hu => by
    rcases List.mem_cons.1 hu with rfl | hu
    · rw [h1]; exact .inl (by simp)
    · rcases ch_next h2 u hu with h | h
      · exact .inl (by simp [h])
      · exact .inr h
theorem ch_orbit {f : Nat → Nat} {c : Cy} (h : Ch f c.1 c.2 c.1) {a : Nat} (ha : a ∈ pt c) (u : Nat) : u ∈ pt c ↔ ∃ k, it f k a = u := by
  obtain ⟨A, hA, pA⟩ := ch_rot h ha
  rw [pA.mem_iff]
  constructor
  · intro hu
    rcases List.mem_cons.1 hu with rfl | hu
    · exact ⟨0, rfl⟩
    · exact ch_reach hA u hu
  · rintro ⟨k, rfl⟩
    induction k with
    | zero => exact List.mem_cons_self
    | succ k ih =>
      rcases ch_next hA _ ih with h | h
      · exact List.mem_cons_of_mem _ h
      · show f (it f k a) ∈ a :: A
        rw [h]; exact List.mem_cons_self
/-- The least one of a cycle. -/
def minC (c : Cy) : Nat := c.2.foldl min c.1
theorem foldl_min : ∀ (A : List Nat) (x : Nat), A.foldl min x ∈ x :: A ∧ ∀ u ∈ x :: A, A.foldl min x ≤ u
  | [], x => by simp
  | y :: A, x => by
    obtain ⟨h1, h2⟩ := foldl_min A (min x y)
    show A.foldl min (min x y) ∈ _ ∧ ∀ u ∈ _, A.foldl min (min x y) ≤ u
    refine ⟨?_, fun u hu => ?_⟩
    · rcases List.mem_cons.1 h1 with h | h
      · rw [h]
        rcases Nat.le_total x y with e | e
        · rw [Nat.min_eq_left e]; simp
        · rw [Nat.min_eq_right e]; simp
      · simp [h]
    · have hm := h2 (min x y) (by simp)
      rcases List.mem_cons.1 hu with rfl | hu
      · exact Nat.le_trans hm (Nat.min_le_left _ _)
      · rcases List.mem_cons.1 hu with rfl | hu
        · exact Nat.le_trans hm (Nat.min_le_right _ _)
        · exact h2 u (by simp [hu])
/-- As many cycles as least points. -/
theorem CR.count {f : Nat → Nat} {Ls : List Cy} {T : List Nat} (hT : T.Nodup) (R : CR f Ls T) {M : List Nat} (hMn : M.Nodup) (hM : ∀ h, h ∈ M ↔ h ∈ T ∧ Least f h) : M.length = Ls.length := by
  have hmin : ∀ c ∈ Ls, minC c ∈ pt c ∧ Least f (minC c) := fun c hc => by
    obtain ⟨h1, h2⟩ := foldl_min c.2 c.1
    refine ⟨h1, fun k => h2 _ ?_⟩
    exact (ch_orbit (R.ch c hc) h1 _).2 ⟨k, rfl⟩
  have huq : ∀ (Ls : List Cy), (pts Ls).Nodup → (∀ c ∈ Ls, minC c ∈ pt c) → (Ls.map minC).Nodup := by
    intro Ls
    induction Ls with
    | nil => intro _ _; exact List.nodup_nil
    | cons c R ih =>
      intro hn hm
      rw [pts_cons, List.nodup_append] at hn
      obtain ⟨n1, n2, n3⟩ := hn
      refine List.nodup_cons.2 ⟨fun h => ?_, ih n2 fun d hd => hm d (by simp [hd])⟩
      obtain ⟨d, hd, e⟩ := List.mem_map.1 h
      exact n3 (minC c) (hm c (by simp)) (minC d) (mem_pts.2 ⟨d, hd, hm d (by simp [hd])⟩) e.symm
  have hnd := huq Ls (R.pm.symm.nodup hT) fun c hc => (hmin c hc).1
  have h1 := fit_len (T := M) hnd fun y hy => by
    obtain ⟨c, hc, rfl⟩ := List.mem_map.1 hy
    exact (hM _).2 ⟨R.pm.mem_iff.1 (mem_pts.2 ⟨c, hc, (hmin c hc).1⟩), (hmin c hc).2⟩
  have h2 := fit_len (T := Ls.map minC) hMn fun h hh => by
    obtain ⟨g1, g2⟩ := (hM h).1 hh
    obtain ⟨c, hc, hcm⟩ := mem_pts.1 (R.pm.mem_iff.2 g1)
    refine List.mem_map.2 ⟨c, hc, ?_⟩
    obtain ⟨k, hk⟩ := (ch_orbit (R.ch c hc) hcm _).1 (hmin c hc).1
    obtain ⟨j, hj⟩ := (ch_orbit (R.ch c hc) (hmin c hc).1 _).1 hcm
    have a1 := g2 k
    have a2 := (hmin c hc).2 j
    omega
  rw [List.length_map] at h1 h2
  omega
end Go.Proofs.YtleoalcbgpjieaaDoor
