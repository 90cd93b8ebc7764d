/- Plainly: signed Gauss codes, their texts, and how Parse reads them. -/
import Derived.Test.YtjmapbmdfbdomaaDoorTP2
namespace Go.Proofs.YtjmapbmdfbdomaaDoor
open Go.Lib
set_option linter.unusedVariables false
set_option linter.unusedSimpArgs false

abbrev Vis := Int × Bool
structure GC where
  C : List (List Vis)
  S : List Int
  L : Int
def VG (g : GC) : Prop := g.S.length ≤ 64 ∧ (0 ≤ g.L ∧ g.L ≤ 64) ∧ (∀ s ∈ g.S, s = 1 ∨ s = -1) ∧ (∀ c ∈ g.C, c ≠ []) ∧ (∀ v ∈ g.C.flatten, 0 ≤ v.1 ∧ v.1 < g.S.length) ∧ g.C.flatten.Nodup ∧ g.C.flatten.length = 2 * g.S.length

def visT (S : List Int) (v : Vis) : List UInt8 := (if v.2 = true then 79 else 85) :: (itoa (v.1 + 1) ++ [if S.getD v.1.toNat 0 = 1 then 43 else 45])
def wrdT (S : List Int) (vs : List Vis) : List UInt8 := (vs.map (visT S)).flatten
def wordsG (g : GC) : List (List UInt8) := g.C.map (wrdT g.S) ++ List.replicate g.L.toNat [42]
def fmtG (g : GC) : List UInt8 := joinS (wordsG g)

/-! ### Parse -/
def dig (c : UInt8) : Bool := decide (48 ≤ c.toNat ∧ c.toNat ≤ 57)
def sg (c : UInt8) : Int := if c = 43 then 1 else -1
def seqL : Nat → List UInt8 → List Int → List Vis → Option (List Vis × List Int)
  | _, [], A, acc => some (acc, A)
  | 0, _ :: _, _, _ => none
  | f + 1, k :: r, A, acc =>
    match atoiAll (r.takeWhile dig), r.dropWhile dig with
    | .ok n, c :: r' => if (k = 79 ∨ k = 85) ∧ 1 ≤ n ∧ n ≤ A.length ∧ (c = 43 ∨ c = 45) ∧ A.getD (n - 1).toNat 0 ≠ - sg c then seqL f r' (A.set (n - 1).toNat (sg c)) (acc ++ [(n - 1, decide (k = 79))]) else none
    | _, _ => none
def candW : List (List UInt8) → List Int → List (List Vis) → Int → Option (List (List Vis) × List Int × Int)
  | [], A, C, L => some (C, A, L)
  | w :: ws, A, C, L => if w = [42] then candW ws A C (L + 1) else match seqL w.length w A [] with
    | some (c, A') => candW ws A' (C ++ [c]) L
    | none => none
def trimZ (A : List Int) : List Int := (A.reverse.dropWhile fun x => decide (x = 0)).reverse
noncomputable def parseG (s : List UInt8) : Option GC := match candW (fieldsD s) (List.replicate 64 0) [] 0 with
  | some (C, A, L) => open Classical in if VG ⟨C, trimZ A, L⟩ ∧ fmtG ⟨C, trimZ A, L⟩ = s then some ⟨C, trimZ A, L⟩ else none
  | none => none

/-! ### What was written is read -/
theorem dig_of {c : UInt8} (h : dgt c) : dig c = true := decide_eq_true h
theorem take_dig (l : List UInt8) (h : ∀ c ∈ l, dgt c) (c : UInt8) (r : List UInt8) (hc : dig c = false) : (l ++ c :: r).takeWhile dig = l ∧ (l ++ c :: r).dropWhile dig = c :: r := by
  induction l with
  | nil => simp [hc]
  | cons x t ih =>
    have hx := dig_of (h x (by simp))
    obtain ⟨a, b⟩ := ih (fun y hy => h y (by simp [hy]))
    simp [hx, a, b]
def setAll (S : List Int) : List Vis → List Int → List Int
  | [], A => A
  | v :: r, A => setAll S r (A.set v.1.toNat (S.getD v.1.toNat 0))
theorem setAll_len (S : List Int) : ∀ (vs : List Vis) (A : List Int), (setAll S vs A).length = A.length
  | [], A => rfl
  | v :: r, A => by rw [setAll, setAll_len S r]; simp
theorem setAll_get (S : List Int) : ∀ (vs : List Vis) (A : List Int) (i : Nat), i < A.length → (setAll S vs A).getD i 0 = if (∃ v ∈ vs, v.1.toNat = i) then S.getD i 0 else A.getD i 0
  | [], A, i, _ => by simp [setAll]
  | v :: r, A, i, hi => by
    rw [setAll, setAll_get S r _ i (by simpa using hi)]
    by_cases h1 : ∃ u ∈ r, u.1.toNat = i
    · rw [if_pos h1, if_pos (by obtain ⟨u, a, b⟩ := h1; exact ⟨u, by simp [a], b⟩)]
    · rw [if_neg h1]
      by_cases h2 : v.1.toNat = i
      · rw [if_pos ⟨v, by simp, h2⟩]
        subst h2
        simp [List.getD_eq_getElem?_getD, List.getElem?_set, hi]
      · rw [if_neg (by rintro ⟨u, a, b⟩; rcases List.mem_cons.1 a with rfl | a; exact h2 b; exact h1 ⟨u, a, b⟩)]
        simp [List.getD_eq_getElem?_getD, List.getElem?_set, h2]
theorem setAll_app (S : List Int) : ∀ (a b : List Vis) (A : List Int), setAll S (a ++ b) A = setAll S b (setAll S a A)
  | [], b, A => rfl
  | v :: r, b, A => setAll_app S r b _
/-- The signs so far are those of S, or not known yet. -/
def Agr (A S : List Int) : Prop := ∀ i, i < A.length → A.getD i 0 = 0 ∨ A.getD i 0 = S.getD i 0
theorem seq_word (S : List Int) (hS : ∀ s ∈ S, s = 1 ∨ s = -1) : ∀ (vs : List Vis) (f : Nat) (A : List Int) (acc : List Vis), (wrdT S vs).length ≤ f → S.length ≤ A.length → A.length ≤ 1000 → (∀ v ∈ vs, 0 ≤ v.1 ∧ v.1 < S.length) → Agr A S →
    seqL f (wrdT S vs) A acc = some (acc ++ vs, setAll S vs A) ∧ Agr (setAll S vs A) S
  | [], f, A, acc, _, _, _, _, ha => by
    cases f <;> simp [wrdT, seqL, setAll, ha]
  | v :: r, f, A, acc, hf, hl, hl2, hv, ha => by
    obtain ⟨h1, h2⟩ := hv v (by simp)
    have e : wrdT S (v :: r) = (if v.2 = true then 79 else 85) :: (itoa (v.1 + 1) ++ (if S.getD v.1.toNat 0 = 1 then 43 else 45) :: wrdT S r) := by
      simp [wrdT, visT]
    rw [e] at hf ⊢
    have hf1 : 1 ≤ f := Nat.le_trans (by simp) hf
    obtain ⟨f, rfl⟩ : ∃ g, f = g + 1 := ⟨f - 1, by omega⟩
    have hvn : v.1.toNat < S.length := by omega
    have hsv : S.getD v.1.toNat 0 = 1 ∨ S.getD v.1.toNat 0 = -1 := by
      have : S.getD v.1.toNat 0 ∈ S := by
        rw [List.getD_eq_getElem?_getD, List.getElem?_eq_getElem hvn]
        exact List.getElem_mem _
      exact hS _ this
    generalize hc : (if S.getD v.1.toNat 0 = 1 then (43 : UInt8) else 45) = c at hf ⊢
    have hcd : dig c = false := by subst hc; split <;> rfl
    have hc2 : c = 43 ∨ c = 45 := by subst hc; split <;> simp
    have hcs : sg c = S.getD v.1.toNat 0 := by
      subst hc
      unfold sg
      rcases hsv with h | h
      · rw [if_pos h, h]; rfl
      · rw [if_neg (show ¬ S.getD v.1.toNat 0 = 1 by omega), h]; rfl
    obtain ⟨t1, t2⟩ := take_dig (itoa (v.1 + 1)) (itoa_dgt (by omega)) c (wrdT S r) hcd
    have hat : atoiAll (itoa (v.1 + 1)) = .ok (v.1 + 1) := atoi_itoa (by omega) (by omega)
    have e1 : v.1 + 1 - 1 = v.1 := by omega
    have hne : A.getD v.1.toNat 0 ≠ - sg c := by
      rw [hcs]
      have := ha v.1.toNat (by omega)
      omega
    have hag : Agr (A.set v.1.toNat (sg c)) S := by
      intro i hi
      rw [List.length_set] at hi
      by_cases h : v.1.toNat = i
      · right
        subst h
        rw [hcs]
        simp [List.getD_eq_getElem?_getD, List.getElem?_set, hi]
      · have := ha i hi
        simpa [List.getD_eq_getElem?_getD, List.getElem?_set, h] using this
    have ih := seq_word S hS r f (A.set v.1.toNat (sg c)) (acc ++ [v]) (by simp only [List.length_cons, List.length_append] at hf; omega) (by simpa using hl) (by simpa using hl2) (fun u hu => hv u (by simp [hu])) hag
    simp only [seqL, t1, t2, hat]
    rw [if_pos ⟨by cases v.2 <;> simp, by omega, by omega, hc2, by rw [e1]; exact hne⟩, e1]
    have ev : (v.1, decide ((if v.2 = true then (79 : UInt8) else 85) = 79)) = v := by
      rcases v with ⟨a, b⟩
      cases b <;> rfl
    rw [ev, ih.1]
    rw [hcs] at ih ⊢
    refine ⟨by simp [setAll], ih.2⟩

theorem wrd_sp (S : List Int) (vs : List Vis) (hv : ∀ v ∈ vs, 0 ≤ v.1) : (∀ c ∈ wrdT S vs, isSp c = false ∧ c.toNat < 128) ∧ (vs ≠ [] → wrdT S vs ≠ [] ∧ wrdT S vs ≠ [42]) := by
  constructor
  · intro c hc
    simp only [wrdT, List.mem_flatten, List.mem_map] at hc
    obtain ⟨l, ⟨v, hv', rfl⟩, hc⟩ := hc
    have := hv v hv'
    simp only [visT, List.mem_cons, List.mem_append, List.not_mem_nil, or_false] at hc
    rcases hc with rfl | hc | rfl
    · split <;> exact ⟨rfl, by decide⟩
    · exact dgt_sp (itoa_dgt (by omega) c hc)
    · split <;> exact ⟨rfl, by decide⟩
  · intro hn
    match vs, hn with
    | v :: r, _ =>
      refine ⟨by simp [wrdT, visT], fun h => ?_⟩
      have := congrArg List.head? h
      simp only [wrdT, visT, List.map_cons, List.flatten_cons, List.cons_append, List.head?_cons, Option.some.injEq] at this
      split at this <;> cases this
theorem cand_words (S : List Int) (hS : ∀ s ∈ S, s = 1 ∨ s = -1) : ∀ (C : List (List Vis)) (ws : List (List UInt8)) (A : List Int) (C0 : List (List Vis)) (L : Int), S.length ≤ A.length → A.length ≤ 1000 → (∀ c ∈ C, c ≠ []) → (∀ v ∈ C.flatten, 0 ≤ v.1 ∧ v.1 < S.length) → Agr A S →
    candW (C.map (wrdT S) ++ ws) A C0 L = candW ws (setAll S C.flatten A) (C0 ++ C) L
  | [], ws, A, C0, L, _, _, _, _, _ => by simp [setAll]
  | c :: r, ws, A, C0, L, hl, hl2, hn, hv, ha => by
    have hvc : ∀ v ∈ c, 0 ≤ v.1 ∧ v.1 < S.length := fun v h => hv v (by simp [h])
    obtain ⟨s1, s2⟩ := seq_word S hS c (wrdT S c).length A [] (Nat.le_refl _) hl hl2 hvc ha
    have hne := ((wrd_sp S c (fun v h => (hvc v h).1)).2 (hn c (by simp))).2
    rw [List.map_cons, List.cons_append, candW, if_neg hne, s1]
    simp only [List.nil_append]
    rw [cand_words S hS r ws _ _ L (by rw [setAll_len]; exact hl) (by rw [setAll_len]; exact hl2) (fun x h => hn x (by simp [h])) (fun v h => hv v (by simp only [List.flatten_cons, List.mem_append]; exact .inr h)) s2]
    have : setAll S r.flatten (setAll S c A) = setAll S (c :: r).flatten A := by rw [List.flatten_cons, setAll_app]
    rw [this, List.append_assoc]; rfl
theorem cand_stars (A : List Int) (C : List (List Vis)) : ∀ (n : Nat) (L : Int), candW (List.replicate n [42]) A C L = some (C, A, L + n)
  | 0, L => by simp [candW]
  | n + 1, L => by
    rw [List.replicate_succ, candW, if_pos rfl, cand_stars A C n]
    congr 3
    omega

/-! ### All crossings are visited -/
theorem fit_any {α : Type} [DecidableEq α] : ∀ {ys T : List α}, ys.Nodup → (∀ y ∈ ys, y ∈ T) → ys.length ≤ T.length
  | [], _, _, _ => by simp
  | y :: ys, T, hn, hs => by
    have hy := hs y (by simp)
    have h1 : ∀ z ∈ ys, z ∈ T.erase y := fun z hz => by
      have hne : z ≠ y := fun he => by subst he; exact (List.nodup_cons.1 hn).1 hz
      exact (List.mem_erase_of_ne hne).2 (hs z (by simp [hz]))
    have h2 := fit_any (List.nodup_cons.1 hn).2 h1
    rw [List.length_erase_of_mem hy] at h2
    have := List.length_pos_of_mem hy
    simp; omega
def pairsN : Nat → List Vis
  | 0 => []
  | n + 1 => ((n : Int), true) :: ((n : Int), false) :: pairsN n
theorem pairsN_len : ∀ n, (pairsN n).length = 2 * n
  | 0 => rfl
  | n + 1 => by simp [pairsN, pairsN_len n]; omega
theorem pairsN_mem : ∀ {n : Nat} {v : Vis}, v ∈ pairsN n ↔ 0 ≤ v.1 ∧ v.1 < n
  | 0, v => by simp only [pairsN, List.not_mem_nil, false_iff]; omega
  | n + 1, v => by
    simp only [pairsN, List.mem_cons, pairsN_mem (n := n)]
    rcases v with ⟨a, b⟩
    constructor
    · rintro (h | h | h)
      · simp only [Prod.mk.injEq] at h; obtain ⟨rfl, -⟩ := h; simp; omega
      · simp only [Prod.mk.injEq] at h; obtain ⟨rfl, -⟩ := h; simp; omega
      · simp only at h ⊢; omega
    · rintro ⟨h1, h2⟩
      simp only at h1 h2
      by_cases h : a = n
      · subst h
        cases b
        · exact .inr (.inl rfl)
        · exact .inl rfl
      · exact .inr (.inr ⟨h1, by simp only; omega⟩)
theorem visited {n : Nat} {F : List Vis} (h1 : ∀ v ∈ F, 0 ≤ v.1 ∧ v.1 < n) (h2 : F.Nodup) (h3 : F.length = 2 * n) {v : Vis} (hv : 0 ≤ v.1 ∧ v.1 < n) : v ∈ F := by
  refine Classical.byContradiction fun hn => ?_
  have := fit_any (T := pairsN n) (List.nodup_cons.2 ⟨hn, h2⟩) (fun y hy => by
    rcases List.mem_cons.1 hy with rfl | hy
    · exact pairsN_mem.2 hv
    · exact pairsN_mem.2 (h1 y hy))
  rw [pairsN_len, List.length_cons, h3] at this
  omega
theorem trim_zeros (S : List Int) (k : Nat) (h : ∀ s ∈ S, s = 1 ∨ s = -1) : trimZ (S ++ List.replicate k 0) = S := by
  unfold trimZ
  rw [List.reverse_append, List.reverse_replicate, List.dropWhile_append]
  have : (List.replicate k (0 : Int)).dropWhile (fun x => decide (x = 0)) = [] := by
    induction k with
    | zero => rfl
    | succ k ih => rw [List.replicate_succ]; simp
  rw [this]
  simp only [List.isEmpty_nil, if_true]
  cases hr : S.reverse with
  | nil => rw [List.reverse_eq_nil_iff] at hr; subst hr; rfl
  | cons x t =>
    have hx : x = 1 ∨ x = -1 := h x (by rw [← List.mem_reverse, hr]; simp)
    rw [List.dropWhile_cons, if_neg (by simp; omega), ← hr, List.reverse_reverse]

theorem words_ok {g : GC} (hg : VG g) : ∀ w ∈ wordsG g, w ≠ [] ∧ ∀ c ∈ w, isSp c = false := by
  obtain ⟨h1, h2, h3, h4, h5, h6, h7⟩ := hg
  intro w hw
  rcases List.mem_append.1 hw with hw | hw
  · obtain ⟨c, hc, rfl⟩ := List.mem_map.1 hw
    have hv : ∀ v ∈ c, 0 ≤ v.1 := fun v hv => (h5 v (List.mem_flatten.2 ⟨c, hc, hv⟩)).1
    obtain ⟨a, b⟩ := wrd_sp g.S c hv
    exact ⟨(b (h4 c hc)).1, fun x hx => (a x hx).1⟩
  · rw [List.eq_of_mem_replicate hw]
    exact ⟨by simp, by intro c hc; simp at hc; subst hc; rfl⟩
theorem words_ascii {g : GC} (hg : VG g) : ∀ c ∈ fmtG g, c.toNat < 128 := by
  obtain ⟨h1, h2, h3, h4, h5, h6, h7⟩ := hg
  unfold fmtG joinS
  intro c hc
  have := List.mem_of_mem_drop hc
  rw [List.mem_flatten] at this
  obtain ⟨l, hl, hc⟩ := this
  rw [List.mem_map] at hl
  obtain ⟨w, hw, rfl⟩ := hl
  rcases List.mem_cons.1 hc with rfl | hc
  · decide
  · rcases List.mem_append.1 hw with hw | hw
    · obtain ⟨x, hx, rfl⟩ := List.mem_map.1 hw
      exact ((wrd_sp g.S x (fun v hv => (h5 v (List.mem_flatten.2 ⟨x, hx, hv⟩)).1)).1 c hc).2
    · rw [List.eq_of_mem_replicate hw] at hc
      simp at hc; subst hc; decide
theorem zeros_get (k i : Nat) : (List.replicate k (0 : Int)).getD i 0 = 0 := by
  rw [List.getD_eq_getElem?_getD, List.getElem?_replicate]
  split <;> rfl
theorem fields_fmt {g : GC} (hg : VG g) : fieldsD (fmtG g) = wordsG g := by
  rw [fieldsD_ascii _ (words_ascii hg)]
  exact fields_join _ (words_ok hg)
theorem cand_fmt {g : GC} (hg : VG g) : candW (wordsG g) (List.replicate 64 0) [] 0 = some (g.C, g.S ++ List.replicate (64 - g.S.length) 0, g.L) := by
  have hg' := hg
  obtain ⟨h1, h2, h3, h4, h5, h6, h7⟩ := hg'
  unfold wordsG
  have ha : Agr (List.replicate 64 0) g.S := fun i hi => by
    left
    exact zeros_get _ _
  rw [cand_words g.S h3 g.C _ _ _ _ (by simpa using h1) (by simp) h4 h5 ha, cand_stars]
  have e : setAll g.S g.C.flatten (List.replicate 64 0) = g.S ++ List.replicate (64 - g.S.length) 0 := by
    refine List.ext_getElem? fun i => ?_
    by_cases hi : i < 64
    · have hget := setAll_get g.S g.C.flatten (List.replicate 64 0) i (by simpa using hi)
      have hl1 : i < (setAll g.S g.C.flatten (List.replicate 64 0)).length := by rw [setAll_len]; simpa using hi
      rw [List.getD_eq_getElem?_getD, List.getElem?_eq_getElem hl1, Option.getD_some] at hget
      rw [List.getElem?_eq_getElem hl1, hget]
      by_cases hin : i < g.S.length
      · rw [if_pos ⟨((i : Int), true), visited h5 h6 h7 (by simp; omega), by simp⟩, List.getElem?_append_left hin, List.getElem?_eq_getElem hin, List.getD_eq_getElem?_getD, List.getElem?_eq_getElem hin]; rfl
      · rw [if_neg (by
          rintro ⟨v, hv, rfl⟩
          have := h5 v hv
          omega), List.getElem?_append_right (by omega), List.getElem?_replicate, if_pos (by omega), zeros_get]
    · rw [List.getElem?_eq_none (by rw [setAll_len]; simp; omega), List.getElem?_eq_none (by simp; omega)]
  rw [e]
  simp only [List.nil_append, Option.some.injEq, Prod.mk.injEq, true_and]
  omega
theorem parse_fmt {g : GC} (hg : VG g) : parseG (fmtG g) = some g := by
  unfold parseG
  rw [fields_fmt hg, cand_fmt hg]
  have e : trimZ (g.S ++ List.replicate (64 - g.S.length) 0) = g.S := trim_zeros g.S _ hg.2.2.1
  have key : VG ⟨g.C, trimZ (g.S ++ List.replicate (64 - g.S.length) 0), g.L⟩ ∧ fmtG ⟨g.C, trimZ (g.S ++ List.replicate (64 - g.S.length) 0), g.L⟩ = fmtG g := by rw [e]; exact ⟨hg, rfl⟩
  simp only [if_pos key, e]
end Go.Proofs.YtjmapbmdfbdomaaDoor
