/- Plain law: scattering, translations, lexicographic order, least elements. -/
import Derived.Test.YtadelcikpkhclaaDoorG3
namespace Go.Proofs.YtadelcikpkhclaaDoor
set_option linter.unusedVariables false

/-! ### Scattering: value v i to place f i, in order -/
def scat (b : List Int) (f : Nat → Nat) (v : Nat → Int) : Nat → List Int
  | 0 => b
  | i + 1 => (scat b f v i).set (f i) (v i)
theorem scat_len (b : List Int) (f : Nat → Nat) (v : Nat → Int) : ∀ m, (scat b f v m).length = b.length
  | 0 => rfl
  | m + 1 => by simp [scat, scat_len b f v m]
theorem scat_get {b : List Int} {f : Nat → Nat} {v : Nat → Int} : ∀ {m : Nat}, (∀ i j, i < m → j < m → f i = f j → i = j) → ∀ i, i < m → f i < b.length → (scat b f v m)[f i]? = some (v i)
  | 0, _, i, h, _ => by omega
  | m + 1, hf, i, h, hb => by
    rw [scat, List.getElem?_set]
    by_cases e : f m = f i
    · have := hf m i (by omega) h e
      subst this
      rw [if_pos rfl, if_pos (by rw [scat_len]; exact hb)]
    · rw [if_neg e]
      have : i ≠ m := fun h' => e (by rw [h'])
      exact scat_get (fun i j hi hj => hf i j (by omega) (by omega)) i (by omega) hb
theorem scat_congr {b : List Int} {f g : Nat → Nat} {v u : Nat → Int} : ∀ {m : Nat}, (∀ i, i < m → f i = g i ∧ v i = u i) → scat b f v m = scat b g u m
  | 0, _ => rfl
  | m + 1, h => by
    obtain ⟨h1, h2⟩ := h m (by omega)
    rw [scat, scat, scat_congr (m := m) (fun i hi => h i (by omega)), h1, h2]

/-! ### Translations -/
/-- The number at a place, counted around. -/
def atN (xs : List Int) (k : Int) : Int := xs.getD (k % xs.length).toNat 0
def shf (c r : Int) (xs : List Int) : List Int := (List.range xs.length).map fun k : Nat => (atN xs ((k : Int) - c) + r) % xs.length
theorem shf_len (c r : Int) (xs : List Int) : (shf c r xs).length = xs.length := by simp [shf]
theorem atN_mod (xs : List Int) {k l : Int} (h : k % xs.length = l % xs.length) : atN xs k = atN xs l := by simp only [atN, h]
theorem atN_get {xs : List Int} {k : Nat} (h : k < xs.length) : xs[k]? = some (atN xs k) := by
  have : ((k : Int) % xs.length).toNat = k := by rw [Int.emod_eq_of_lt (by omega) (by omega)]; simp
  simp [atN, this, List.getD_eq_getElem?_getD, h]
theorem shf_get {c r : Int} {xs : List Int} {k : Nat} (h : k < xs.length) : (shf c r xs)[k]? = some ((atN xs ((k : Int) - c) + r) % xs.length) := by simp [shf, h]
theorem sub_mod_l (a b n : Int) : (a % n - b) % n = (a - b) % n := by
  rw [Int.sub_emod, Int.emod_emod_of_dvd _ (Int.dvd_refl n), ← Int.sub_emod]
theorem atN_shf {xs : List Int} (h0 : 0 < xs.length) (c r k : Int) : atN (shf c r xs) k = (atN xs (k - c) + r) % xs.length := by
  have h1 : 0 ≤ k % xs.length := Int.emod_nonneg _ (by omega)
  have h2 : k % xs.length < xs.length := Int.emod_lt_of_pos _ (by omega)
  have h3 : (shf c r xs)[(k % xs.length).toNat]? = _ := shf_get (c := c) (r := r) (xs := xs) (k := (k % xs.length).toNat) (by omega)
  rw [show atN (shf c r xs) k = (shf c r xs).getD (k % xs.length).toNat 0 by simp only [atN, shf_len], List.getD_eq_getElem?_getD, h3, Option.getD_some]
  congr 2
  refine atN_mod xs ?_
  rw [Int.toNat_of_nonneg h1, sub_mod_l]
theorem shf_shf (c r c' r' : Int) (xs : List Int) : shf c' r' (shf c r xs) = shf (c + c') (r + r') xs := by
  apply List.ext_getElem?
  intro k
  by_cases hk : k < xs.length
  · rw [shf_get (by rw [shf_len]; exact hk), shf_get hk, atN_shf (by omega), shf_len, Int.emod_add_emod, Int.sub_sub, Int.add_comm c' c, Int.add_assoc]
  · rw [List.getElem?_eq_none (by simp only [shf_len]; omega), List.getElem?_eq_none (by rw [shf_len]; omega)]
theorem shf_mod {c r c' r' : Int} {xs : List Int} (h1 : c % xs.length = c' % xs.length) (h2 : r % xs.length = r' % xs.length) : shf c r xs = shf c' r' xs := by
  apply List.ext_getElem?
  intro k
  by_cases hk : k < xs.length
  · rw [shf_get hk, shf_get hk]
    congr 1
    rw [Int.add_emod, h2, ← Int.add_emod]
    congr 2
    refine atN_mod xs ?_
    rw [Int.sub_emod, h1, ← Int.sub_emod]
  · rw [List.getElem?_eq_none (by rw [shf_len]; omega), List.getElem?_eq_none (by rw [shf_len]; omega)]
theorem shf_zero {xs : List Int} (h : ∀ x ∈ xs, In01 xs.length x) : shf 0 0 xs = xs := by
  apply List.ext_getElem?
  intro k
  by_cases hk : k < xs.length
  · have hx := h (atN xs k) (List.mem_of_getElem? (atN_get hk))
    unfold In01 at hx
    rw [shf_get hk, atN_get hk, Int.sub_zero, Int.add_zero, Int.emod_eq_of_lt hx.1 hx.2]
  · rw [List.getElem?_eq_none (by rw [shf_len]; omega), List.getElem?_eq_none (by omega)]

/-- The loop of a translation by c and r from 0 to n - 1 leaves it. -/
theorem scat_shf {xs : List Int} {n c : Nat} {r : Int} (hn : n = xs.length) (f : Nat → Nat) (v : Nat → Int) (hf : ∀ i, i < n → f i = (i + c) % n) (hv : ∀ i, i < n → v i = (atN xs i + r) % n) : scat (List.replicate n 0) f v n = shf c r xs := by
  subst hn
  apply List.ext_getElem?
  intro k
  by_cases hk : k < xs.length
  · -- from which place
    have hi : ((k : Int) - c) % xs.length ≥ 0 := Int.emod_nonneg _ (by omega)
    have hi2 : ((k : Int) - c) % xs.length < xs.length := Int.emod_lt_of_pos _ (by omega)
    obtain ⟨i, hie⟩ : ∃ i : Nat, ((k : Int) - c) % xs.length = i := ⟨(((k : Int) - c) % xs.length).toNat, by omega⟩
    have hil : i < xs.length := by omega
    have hfk : f i = k := by
      rw [hf i hil]
      have : (((i + c) % xs.length : Nat) : Int) = k := by
        rw [Int.natCast_emod, Int.natCast_add, ← hie, Int.emod_add_emod, show (k : Int) - c + c = k by omega, Int.emod_eq_of_lt (by omega) (by omega)]
      omega
    have hg := scat_get (b := List.replicate xs.length 0) (f := f) (v := v) (m := xs.length) (fun a b ha hb e => by
      rw [hf a ha, hf b hb] at e
      have e2 : ((a : Int) + c) % xs.length = ((b : Int) + c) % xs.length := by
        have := congrArg (fun z : Nat => (z : Int)) e
        simpa using this
      have e3 := Int.emod_emod_of_dvd ((a : Int) + c - ((b : Int) + c)) (Int.dvd_refl (xs.length : Int))
      have e4 := Int.emod_eq_emod_iff_emod_sub_eq_zero.1 e2
      rw [show (a : Int) + c - (b + c) = a - b by omega] at e4
      rcases Nat.lt_or_ge a b with h | h
      · have : ((b : Int) - a) % xs.length = 0 := by
          have := Int.emod_eq_zero_of_dvd (Int.dvd_neg.2 (Int.dvd_of_emod_eq_zero e4))
          rwa [show -((a : Int) - b) = b - a by omega] at this
        rw [Int.emod_eq_of_lt (by omega) (by omega)] at this
        omega
      · rw [Int.emod_eq_of_lt (by omega) (by omega)] at e4
        omega) i hil (by rw [hfk]; simpa using hk)
    rw [hfk] at hg
    rw [hg, shf_get hk, hv i hil]
    congr 3
    exact atN_mod xs (by rw [Int.emod_eq_of_lt (by omega) (by omega)]; exact hie.symm)
  · rw [List.getElem?_eq_none (by simp [scat_len]; omega), List.getElem?_eq_none (by rw [shf_len]; omega)]

/-! ### The lexicographic order -/
def lexL : List Int → List Int → Bool
  | x :: xs, y :: ys => if x = y then lexL xs ys else decide (x < y)
  | _, _ => false
theorem lexL_irr : ∀ xs : List Int, lexL xs xs = false
  | [] => rfl
  | x :: xs => by simp [lexL, lexL_irr xs]
theorem lexL_asymm : ∀ {a b : List Int}, lexL a b = true → lexL b a = true → False
  | x :: a, y :: b, h1, h2 => by
    simp only [lexL] at *
    by_cases e : x = y
    · subst e
      rw [if_pos rfl] at h1 h2
      exact lexL_asymm h1 h2
    · rw [if_neg e] at h1
      rw [if_neg (Ne.symm e)] at h2
      simp at h1 h2
      omega
  | [], _, h1, _ => by simp [lexL] at h1
  | _ :: _, [], h1, _ => by simp [lexL] at h1
theorem lexL_trans : ∀ {a b c : List Int}, a.length = b.length → b.length = c.length → lexL b a = false → lexL c b = false → lexL c a = false
  | [], [], [], _, _, _, _ => rfl
  | x :: a, y :: b, z :: c, h1, h2, h3, h4 => by
    simp only [lexL] at *
    by_cases e1 : z = x
    · rw [if_pos e1]
      subst e1
      by_cases e2 : y = z
      · subst e2
        rw [if_pos rfl] at h3 h4
        exact lexL_trans (by simpa using h1) (by simpa using h2) h3 h4
      · rw [if_neg e2] at h3
        rw [if_neg (Ne.symm e2)] at h4
        simp at h3 h4
        omega
    · rw [if_neg e1]
      by_cases e2 : y = x
      · subst e2
        rw [if_neg e1] at h4
        exact h4
      · rw [if_neg e2] at h3
        by_cases e3 : z = y
        · subst e3; exact h3
        · rw [if_neg e3] at h4
          simp at h3 h4 ⊢
          omega
theorem lexL_tot : ∀ {a b : List Int}, a.length = b.length → lexL a b = false → lexL b a = false → a = b
  | [], [], _, _, _ => rfl
  | x :: a, y :: b, h, h1, h2 => by
    simp only [lexL] at *
    by_cases e : x = y
    · subst e
      rw [if_pos rfl] at h1 h2
      rw [lexL_tot (by simpa using h) h1 h2]
    · rw [if_neg e] at h1
      rw [if_neg (Ne.symm e)] at h2
      simp at h1 h2
      omega

/-! ### The least of some candidates -/
abbrev Gr := List Int × List Int
def cat (g : Gr) : List Int := g.1 ++ g.2
def better (a b : Gr) : Bool := lexL (cat a) (cat b)
/-- The best of l, from b on: whoever is better takes its place. -/
def best (b : Gr) (l : List Gr) : Gr := l.foldl (fun b s => if better s b = true then s else b) b
theorem best_mem : ∀ (l : List Gr) (b : Gr), best b l = b ∨ best b l ∈ l
  | [], b => .inl rfl
  | s :: l, b => by
    show best (if better s b = true then s else b) l = b ∨ _
    split
    · rcases best_mem l s with h | h
      · right; rw [show best b (s :: l) = best (if better s b = true then s else b) l from rfl, if_pos (by assumption), h]; simp
      · right; rw [show best b (s :: l) = best (if better s b = true then s else b) l from rfl, if_pos (by assumption)]; simp [h]
    · rcases best_mem l b with h | h
      · exact .inl h
      · right; rw [show best b (s :: l) = best (if better s b = true then s else b) l from rfl, if_neg (by assumption)]; simp [h]
def Sz (n : Nat) (g : Gr) : Prop := g.1.length = n ∧ g.2.length = n
theorem Sz.cat {n : Nat} {g : Gr} (h : Sz n g) : (cat g).length = n + n := by simp [Go.Proofs.YtadelcikpkhclaaDoor.cat, h.1, h.2]
theorem best_least {n : Nat} : ∀ (l : List Gr) (b : Gr), Sz n b → (∀ s ∈ l, Sz n s) → Sz n (best b l) ∧ better b (best b l) = false ∧ ∀ s ∈ l, better s (best b l) = false
  | [], b, hb, _ => ⟨hb, lexL_irr _, by simp⟩
  | s :: l, b, hb, hl => by
    have hs := hl s (by simp)
    have hl' := fun t ht => hl t (List.mem_cons_of_mem _ ht)
    by_cases hc : better s b = true
    · have e : best b (s :: l) = best s l := by show best (if better s b = true then s else b) l = _; rw [if_pos hc]
      obtain ⟨h1, h2, h3⟩ := best_least l s hs hl'
      rw [e]
      refine ⟨h1, ?_, fun t ht => ?_⟩
      · refine lexL_trans (b := cat s) (by rw [h1.cat, hs.cat]) (by rw [hs.cat, hb.cat]) h2 ?_
        cases h : lexL (cat b) (cat s) with
        | false => rfl
        | true => exact (lexL_asymm h hc).elim
      · rcases List.mem_cons.1 ht with rfl | ht
        · exact h2
        · exact h3 t ht
    · have e : best b (s :: l) = best b l := by show best (if better s b = true then s else b) l = _; rw [if_neg hc]
      obtain ⟨h1, h2, h3⟩ := best_least l b hb hl'
      rw [e]
      refine ⟨h1, h2, fun t ht => ?_⟩
      rcases List.mem_cons.1 ht with rfl | ht
      · exact lexL_trans (b := cat b) (by rw [h1.cat, hb.cat]) (by rw [hb.cat, hs.cat]) h2 (by simpa [better] using hc)
      · exact h3 t ht
theorem cat_inj {n : Nat} {a b : Gr} (ha : Sz n a) (hb : Sz n b) (h : cat a = cat b) : a = b := by
  obtain ⟨h1, h2⟩ := List.append_inj h (by rw [ha.1, hb.1])
  exact Prod.ext h1 h2
theorem least_one {n : Nat} {a b : Gr} (ha : Sz n a) (hb : Sz n b) (h1 : better a b = false) (h2 : better b a = false) : a = b :=
  cat_inj ha hb (lexL_tot (by rw [ha.cat, hb.cat]) h1 h2)
end Go.Proofs.YtadelcikpkhclaaDoor
