/- Plainly: how the reference reads the text of a code; both readings agree. -/
import Derived.Test.YtjmapbmdfbdomaaDoorGP1
namespace Go.Proofs.YtjmapbmdfbdomaaDoor
open Go.Lib
set_option linter.unusedVariables false
set_option linter.unusedSimpArgs false

def rdD : List UInt8 → Nat → Nat × List UInt8
  | [], n => (n, [])
  | c :: r, n => if dig c = true ∧ n ≤ 64 then rdD r (10 * n + (c.toNat - 48)) else (n, c :: r)
def refL : Nat → List UInt8 → List Int → List (List Vis) → List Vis → Int → Option (List (List Vis) × List Int × Int)
  | _, [], A, C, l, L => some (if l = [] then C else C ++ [l], A, L)
  | 0, _ :: _, _, _, _, _ => none
  | f + 1, c :: r, A, C, l, L =>
    if c = 32 then (if l = [] then refL f r A C l L else refL f r A (C ++ [l]) [] L)
    else if c = 42 then refL f r A C l (L + 1)
    else match rdD r 0 with
      | (_, []) => none
      | (n, x :: r') => if 1 ≤ n ∧ n ≤ 64 then refL f r' (A.set (n - 1) (if x = 45 then -1 else 1)) C (l ++ [((n : Int) - 1, decide (c = 79))]) L else none
def headN (A : List Int) : List Int := A.takeWhile fun x => decide (x ≠ 0)
noncomputable def refG (s : List UInt8) : Option GC := match refL s.length s (List.replicate 64 0) [] [] 0 with
  | some (C, A, L) => open Classical in if VG ⟨C, headN A, L⟩ ∧ fmtG ⟨C, headN A, L⟩ = s then some ⟨C, headN A, L⟩ else none
  | none => none

theorem rdD_cons (c : UInt8) (r : List UInt8) (n : Nat) : rdD (c :: r) n = if dig c = true ∧ n ≤ 64 then rdD r (10 * n + (c.toNat - 48)) else (n, c :: r) := rfl
theorem rd_itoa {k : Int} (h1 : 1 ≤ k) (h2 : k ≤ 64) (x : UInt8) (r : List UInt8) (hx : dig x = false) : rdD (itoa k ++ x :: r) 0 = (k.toNat, x :: r) := by
  by_cases h : k < 10
  · obtain ⟨a, b⟩ := dgt_of (k := k.toNat) (by omega)
    rw [itoa_one (by omega) h, List.singleton_append, rdD_cons, if_pos ⟨dig_of a, by omega⟩, b, rdD_cons, if_neg (by rw [hx]; simp)]
    simp
  · obtain ⟨a, b⟩ := dgt_of (k := k.toNat / 10) (by omega)
    obtain ⟨c, d⟩ := dgt_of (k := k.toNat % 10) (by omega)
    rw [itoa_two (by omega) (by omega), List.cons_append, List.singleton_append, rdD_cons, if_pos ⟨dig_of a, by omega⟩, b, rdD_cons, if_pos ⟨dig_of c, by omega⟩, d, rdD_cons, if_neg (by rw [hx]; simp)]
    have : 10 * (10 * 0 + (48 + k.toNat / 10 - 48)) + (48 + k.toNat % 10 - 48) = k.toNat := by omega
    rw [this]
theorem ref_word (S : List Int) (hS : ∀ s ∈ S, s = 1 ∨ s = -1) (hl : S.length ≤ 64) : ∀ (vs : List Vis) (f : Nat) (A : List Int) (C : List (List Vis)) (l : List Vis) (L : Int) (T : List UInt8), (wrdT S vs ++ T).length ≤ f → (∀ v ∈ vs, 0 ≤ v.1 ∧ v.1 < S.length) →
    ∃ f', T.length ≤ f' ∧ refL f (wrdT S vs ++ T) A C l L = refL f' T (setAll S vs A) C (l ++ vs) L
  | [], f, A, C, l, L, T, hf, _ => ⟨f, by simpa [wrdT] using hf, by simp [wrdT, setAll]⟩
  | v :: r, f, A, C, l, L, T, hf, hv => by
    obtain ⟨h1, h2⟩ := hv v (by simp)
    have e : wrdT S (v :: r) ++ T = (if v.2 = true then 79 else 85) :: (itoa (v.1 + 1) ++ (if S.getD v.1.toNat 0 = 1 then 43 else 45) :: (wrdT S r ++ T)) := by
      simp [wrdT, visT]
    rw [e] at hf ⊢
    have hf1 : 1 ≤ f := Nat.le_trans (by simp) hf
    obtain ⟨f, rfl⟩ : ∃ g, f = g + 1 := ⟨f - 1, by omega⟩
    have hvn : v.1.toNat < S.length := by omega
    have hsv : S.getD v.1.toNat 0 = 1 ∨ S.getD v.1.toNat 0 = -1 := by
      have : S.getD v.1.toNat 0 ∈ S := by
        rw [List.getD_eq_getElem?_getD, List.getElem?_eq_getElem hvn]
        exact List.getElem_mem _
      exact hS _ this
    generalize hc : (if S.getD v.1.toNat 0 = 1 then (43 : UInt8) else 45) = c at hf ⊢
    have hcd : dig c = false := by subst hc; split <;> rfl
    have hcs : (if c = 45 then (-1 : Int) else 1) = S.getD v.1.toNat 0 := by
      subst hc
      rcases hsv with h | h
      · rw [if_pos h, h]; rfl
      · rw [if_neg (show ¬ S.getD v.1.toNat 0 = 1 by omega), h]; rfl
    have hr := rd_itoa (k := v.1 + 1) (by omega) (by omega) c (wrdT S r ++ T) hcd
    obtain ⟨f', i1, i2⟩ := ref_word S hS hl r f (A.set v.1.toNat (S.getD v.1.toNat 0)) C (l ++ [v]) L T (by simp only [List.length_cons, List.length_append] at hf ⊢; omega) (fun u hu => hv u (by simp [hu]))
    refine ⟨f', i1, ?_⟩
    have e32 : ¬ (if v.2 = true then (79 : UInt8) else 85) = 32 := by split <;> decide
    have e42 : ¬ (if v.2 = true then (79 : UInt8) else 85) = 42 := by split <;> decide
    simp only [refL]
    rw [if_neg e32, if_neg e42, hr]
    simp only
    rw [if_pos ⟨by omega, by omega⟩, hcs]
    have e1 : (v.1 + 1).toNat - 1 = v.1.toNat := by omega
    have ev : ((((v.1 + 1).toNat : Nat) : Int) - 1, decide ((if v.2 = true then (79 : UInt8) else 85) = 79)) = v := by
      have : (((v.1 + 1).toNat : Nat) : Int) - 1 = v.1 := by omega
      rw [this]
      rcases v with ⟨a, b⟩
      cases b <;> rfl
    rw [e1, ev, i2]
    simp [setAll]
theorem joinS_app (w : List UInt8) {ws : List (List UInt8)} (h : ws ≠ []) : joinS (w :: ws) = w ++ 32 :: joinS ws := by
  cases ws with
  | nil => exact absurd rfl h
  | cons v r => exact joinS_cons _ _ _
theorem ref_stars (A : List Int) (C : List (List Vis)) : ∀ (n f : Nat) (L : Int), (joinS (List.replicate n [42])).length ≤ f → refL f (joinS (List.replicate n [42])) A C [] L = some (C, A, L + n)
  | 0, f, L, hf => by
    cases f <;> simp [joinS_nil, refL]
  | 1, f, L, hf => by
    rw [List.replicate_succ, List.replicate_zero, joinS_one] at hf ⊢
    obtain ⟨f, rfl⟩ : ∃ g, f = g + 1 := ⟨f - 1, by simp at hf; omega⟩
    have e32 : ¬ (42 : UInt8) = 32 := by decide
    simp only [refL, if_neg e32, if_true]
    cases f <;> simp [refL]
  | n + 2, f, L, hf => by
    rw [List.replicate_succ, joinS_app _ (by simp)] at hf ⊢
    simp only [List.length_append, List.length_cons, List.length_nil] at hf
    obtain ⟨f, rfl⟩ : ∃ g, f = g + 2 := ⟨f - 2, by omega⟩
    have e32 : ¬ (42 : UInt8) = 32 := by decide
    simp only [List.cons_append, List.nil_append, refL, if_neg e32, if_true]
    rw [ref_stars A C (n + 1) f _ (by omega)]
    congr 3
    omega
theorem ref_comps (S : List Int) (hS : ∀ s ∈ S, s = 1 ∨ s = -1) (hl : S.length ≤ 64) (n : Nat) : ∀ (C : List (List Vis)) (f : Nat) (A : List Int) (C0 : List (List Vis)) (L : Int), (joinS (C.map (wrdT S) ++ List.replicate n [42])).length ≤ f → (∀ c ∈ C, c ≠ []) → (∀ v ∈ C.flatten, 0 ≤ v.1 ∧ v.1 < S.length) →
    refL f (joinS (C.map (wrdT S) ++ List.replicate n [42])) A C0 [] L = some (C0 ++ C, setAll S C.flatten A, L + n)
  | [], f, A, C0, L, hf, _, _ => by
    simp only [List.map_nil, List.nil_append] at hf ⊢
    rw [ref_stars A C0 n f L hf]
    simp [setAll]
  | c :: r, f, A, C0, L, hf, hn, hv => by
    have hvc : ∀ v ∈ c, 0 ≤ v.1 ∧ v.1 < S.length := fun v h => hv v (by simp [h])
    have hcn := hn c (by simp)
    rw [List.map_cons, List.cons_append] at hf ⊢
    have es : setAll S (c :: r).flatten A = setAll S r.flatten (setAll S c A) := by rw [List.flatten_cons, setAll_app]
    by_cases hr : r.map (wrdT S) ++ List.replicate n [42] = []
    · rw [hr, joinS_one] at hf ⊢
      have h1 : r = [] := by
        have := congrArg List.length hr
        simp only [List.length_append, List.length_map, List.length_replicate, List.length_nil] at this
        exact List.eq_nil_of_length_eq_zero (by omega)
      have h2 : n = 0 := by
        have := congrArg List.length hr
        simp only [List.length_append, List.length_map, List.length_replicate, List.length_nil] at this
        omega
      obtain ⟨f', -, i2⟩ := ref_word S hS hl c f A C0 [] L [] (by simpa using hf) hvc
      rw [List.append_nil] at i2
      rw [i2, es]
      subst h1 h2
      have : refL f' [] (setAll S c A) C0 ([] ++ c) L = some (C0 ++ [c], setAll S c A, L) := by
        cases f' <;> simp [refL, hcn]
      rw [this]
      simp [setAll]
    · rw [joinS_app _ hr] at hf ⊢
      obtain ⟨f', i1, i2⟩ := ref_word S hS hl c f A C0 [] L _ hf hvc
      rw [i2, es]
      simp only [List.length_cons] at i1
      obtain ⟨f', rfl⟩ : ∃ g, f' = g + 1 := ⟨f' - 1, by omega⟩
      simp only [List.nil_append, refL, if_true]
      rw [if_neg hcn, ref_comps S hS hl n r f' _ _ L (by omega) (fun x h => hn x (by simp [h])) (fun v h => hv v (by simp only [List.flatten_cons, List.mem_append]; exact .inr h))]
      simp
theorem head_zeros (S : List Int) (k : Nat) (h : ∀ s ∈ S, s = 1 ∨ s = -1) : headN (S ++ List.replicate k 0) = S := by
  unfold headN
  induction S with
  | nil =>
    cases k with
    | zero => rfl
    | succ k => simp [List.replicate_succ]
  | cons x r ih =>
    have hx := h x (by simp)
    rw [List.cons_append, List.takeWhile_cons, if_pos (by simp; omega), ih (fun s hs => h s (by simp [hs]))]
theorem ref_fmt {g : GC} (hg : VG g) : refG (fmtG g) = some g := by
  have hg' := hg
  obtain ⟨h1, h2, h3, h4, h5, h6, h7⟩ := hg'
  have hc := cand_fmt hg
  unfold wordsG at hc
  have ha : Agr (List.replicate 64 0) g.S := fun i hi => .inl (zeros_get _ _)
  rw [cand_words g.S h3 g.C _ _ _ _ (by simpa using h1) (by simp) h4 h5 ha, cand_stars] at hc
  simp only [Option.some.injEq, Prod.mk.injEq] at hc
  have hr := ref_comps g.S h3 h1 g.L.toNat g.C _ (List.replicate 64 0) [] 0 (Nat.le_refl _) h4 h5
  rw [hc.2.1] at hr
  have e0 : (0 : Int) + (g.L.toNat : Nat) = g.L := by omega
  rw [e0, List.nil_append] at hr
  have hr' : refL (fmtG g).length (fmtG g) (List.replicate 64 0) [] [] 0 = some (g.C, g.S ++ List.replicate (64 - g.S.length) 0, g.L) := hr
  unfold refG
  rw [hr']
  have e := head_zeros g.S (64 - g.S.length) h3
  have key : VG ⟨g.C, headN (g.S ++ List.replicate (64 - g.S.length) 0), g.L⟩ ∧ fmtG ⟨g.C, headN (g.S ++ List.replicate (64 - g.S.length) 0), g.L⟩ = fmtG g := by rw [e]; exact ⟨hg, rfl⟩
  simp only [if_pos key, e]
theorem parse_some {s : List UInt8} {g : GC} (h : parseG s = some g) : VG g ∧ fmtG g = s := by
  unfold parseG at h
  split at h
  · split at h
    · rename_i hk
      simp only [Option.some.injEq] at h
      subst h; exact hk
    · cases h
  · cases h
theorem refG_some {s : List UInt8} {g : GC} (h : refG s = some g) : VG g ∧ fmtG g = s := by
  unfold refG at h
  split at h
  · split at h
    · rename_i hk
      simp only [Option.some.injEq] at h
      subst h; exact hk
    · cases h
  · cases h
/-- Both readings are the same. -/
theorem same_gauss (s : List UInt8) : parseG s = refG s := by
  cases h : parseG s with
  | some g =>
    obtain ⟨h1, h2⟩ := parse_some h
    rw [← h2, ref_fmt h1]
  | none =>
    cases h' : refG s with
    | none => rfl
    | some g =>
      obtain ⟨h1, h2⟩ := refG_some h'
      rw [← h2, parse_fmt h1] at h
      cases h
end Go.Proofs.YtjmapbmdfbdomaaDoor
