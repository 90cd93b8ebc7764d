/- isomorphic: what it computes: plain. -/
import Derived.Test.YtooafhbjbpaacaaM1
namespace Go.Proofs.Ytooafhbjbpaacaa
open Go.Ab
set_option linter.unusedVariables false

/-- One half-edge of a pass: where its crossing is known, that of its mate becomes known. -/
def stT (ms ms' T : List Int) (h : Nat) : List Int := if T.getD (h / 4) 0 < 0 then T else
  if T.getD (mateN ms h / 4) 0 < 0 then T.set (mateN ms h / 4) ((mateN ms' (4 * (T.getD (h / 4) 0).toNat + h % 4) / 4 : Nat) : Int) else T
def stB (ms ms' T : List Int) (b : Bool) (h : Nat) : Bool := if T.getD (h / 4) 0 < 0 then b else
  b && decide (((mateN ms' (4 * (T.getD (h / 4) 0).toNat + h % 4) : Nat) : Int) = 4 * (stT ms ms' T h).getD (mateN ms h / 4) 0 + ((mateN ms h % 4 : Nat) : Int))
def ps (ms ms' T : List Int) (b : Bool) : Nat → List Int × Bool
  | 0 => (T, b)
  | h + 1 => (stT ms ms' (ps ms ms' T b h).1 h, stB ms ms' (ps ms ms' T b h).1 (ps ms ms' T b h).2 h)
/-- After some passes. -/
def pss (ms ms' T : List Int) (b : Bool) : Nat → List Int × Bool
  | 0 => (T, b)
  | p + 1 => ps ms ms' (pss ms ms' T b p).1 (pss ms ms' T b p).2 ms.length
def Rng (n : Nat) (T : List Int) : Prop := T.length = n ∧ ∀ c, c < n → -1 ≤ T.getD c 0 ∧ T.getD c 0 < n
theorem mate_lt {ms : List Int} (hm : Mates ms) {h : Nat} (hh : h < ms.length) : mateN ms h < ms.length ∧ ms[h]? = some ((mateN ms h : Nat) : Int) := by
  obtain ⟨m, h1, h2⟩ := hm.get h hh
  have : mateN ms h = m := by unfold mateN; rw [getD_at h1]; simp
  rw [this]; exact ⟨h2, h1⟩
theorem getD_set1 {T : List Int} {c d : Nat} {v : Int} (hc : c < T.length) : (T.set c v).getD d 0 = if d = c then v else T.getD d 0 := by
  rw [List.getD_eq_getElem?_getD, List.getElem?_set]
  by_cases h : c = d
  · subst h; rw [if_pos rfl, if_pos hc, if_pos rfl]; rfl
  · rw [if_neg h, if_neg (fun e => h e.symm), ← List.getD_eq_getElem?_getD]
variable {ms ms' : List Int} {n : Nat}
theorem stT_rng (hm : Mates ms) (hm' : Mates ms') (hl : ms.length = 4 * n) (hl' : ms'.length = 4 * n) {T : List Int} (hT : Rng n T) {h : Nat} (hh : h < 4 * n) : Rng n (stT ms ms' T h) := by
  unfold stT
  by_cases h1 : T.getD (h / 4) 0 < 0
  · rw [if_pos h1]; exact hT
  · rw [if_neg h1]
    by_cases h2 : T.getD (mateN ms h / 4) 0 < 0
    · rw [if_pos h2]
      have hg := (mate_lt hm (h := h) (by omega)).1
      obtain ⟨a, b⟩ := hT.2 (h / 4) (by omega)
      have hy := (mate_lt hm' (h := 4 * (T.getD (h / 4) 0).toNat + h % 4) (by omega)).1
      refine ⟨by rw [List.length_set]; exact hT.1, fun c hc => ?_⟩
      rw [getD_set1 (by rw [hT.1]; omega)]
      split
      · omega
      · exact hT.2 c hc
    · rw [if_neg h2]; exact hT
theorem ps_rng (hm : Mates ms) (hm' : Mates ms') (hl : ms.length = 4 * n) (hl' : ms'.length = 4 * n) {T : List Int} (hT : Rng n T) {b : Bool} : ∀ {h}, h ≤ 4 * n → Rng n (ps ms ms' T b h).1
  | 0, _ => hT
  | h + 1, hh => stT_rng hm hm' hl hl' (ps_rng hm hm' hl hl' hT (by omega)) (by omega)
theorem pss_rng (hm : Mates ms) (hm' : Mates ms') (hl : ms.length = 4 * n) (hl' : ms'.length = 4 * n) {T : List Int} (hT : Rng n T) {b : Bool} : ∀ p, Rng n (pss ms ms' T b p).1
  | 0 => hT
  | p + 1 => ps_rng hm hm' hl hl' (pss_rng hm hm' hl hl' hT p) (by omega)
/-- At the start: crossing 0 goes to crossing i. -/
def fillM (n j : Nat) : List Int := (List.range n).map fun c => if c < j then -1 else 0
theorem fill_len (n j : Nat) : (fillM n j).length = n := by simp [fillM]
theorem fill_next {n j : Nat} (hj : j < n) : fillM n (j + 1) = (fillM n j).set j (-1) := by
  refine List.ext_getElem (by simp [fillM]) fun c h1 h2 => ?_
  rw [List.getElem_set]
  simp only [fillM, List.getElem_map, List.getElem_range]
  by_cases h : j = c
  · subst h; simp
  · rw [if_neg h]
    by_cases h3 : c < j
    · rw [if_pos (by omega), if_pos h3]
    · rw [if_neg (by omega), if_neg h3]
def iniT (n i : Nat) : List Int := (fillM n n).set 0 (i : Int)
theorem ini_get {n i : Nat} (hn : 0 < n) {c : Nat} (hc : c < n) : (iniT n i).getD c 0 = if c = 0 then (i : Int) else -1 := by
  unfold iniT
  rw [getD_set1 (by rw [fill_len]; omega)]
  split
  · rfl
  · rw [List.getD_eq_getElem?_getD, List.getElem?_eq_getElem (by rw [fill_len]; exact hc)]
    simp [fillM, hc]
theorem ini_rng {n i : Nat} (hi : i < n) : Rng n (iniT n i) := by
  refine ⟨by simp [iniT, fill_len], fun c hc => ?_⟩
  rw [ini_get (by omega) hc]
  split <;> omega
/-- The signs at last. -/
def sgT (xs xs' T : List Int) (b : Bool) : Nat → Bool
  | 0 => b
  | c + 1 => sgT xs xs' T b c && decide (0 ≤ T.getD c 0) && decide (xs.getD c 0 = xs'.getD (T.getD c 0).toNat 0)
/-! ### When there is a correspondence -/
structure Iso (n : Nat) (xs xs' ms ms' : List Int) (nu : Nat → Nat) : Prop where
  lt : ∀ c, c < n → nu c < n
  mate : ∀ h, h < 4 * n → mateN ms' (4 * nu (h / 4) + h % 4) = 4 * nu (mateN ms h / 4) + mateN ms h % 4
  sgn : ∀ c, c < n → xs'.getD (nu c) 0 = xs.getD c 0
/-- All that is known is right. -/
def Rt (n : Nat) (nu : Nat → Nat) (T : List Int) : Prop := ∀ c, c < n → T.getD c 0 = -1 ∨ T.getD c 0 = (nu c : Int)
variable {xs xs' : List Int} {nu : Nat → Nat}
theorem st_rt (I : Iso n xs xs' ms ms' nu) (hm : Mates ms) (hl : ms.length = 4 * n) {T : List Int} (hT : T.length = n) (hR : Rt n nu T) {h : Nat} (hh : h < 4 * n) :
    Rt n nu (stT ms ms' T h) ∧ (∀ c, c < n → 0 ≤ T.getD c 0 → 0 ≤ (stT ms ms' T h).getD c 0) ∧ (0 ≤ T.getD (h / 4) 0 → 0 ≤ (stT ms ms' T h).getD (mateN ms h / 4) 0) ∧ stB ms ms' T true h = true := by
  have hg := (mate_lt hm (h := h) (by omega)).1
  unfold stB
  by_cases h1 : T.getD (h / 4) 0 < 0
  · have e : stT ms ms' T h = T := by unfold stT; rw [if_pos h1]
    rw [if_pos h1, e]
    exact ⟨hR, fun c _ h => h, fun h => by omega, rfl⟩
  · rw [if_neg h1]
    have e1 : T.getD (h / 4) 0 = (nu (h / 4) : Int) := (hR (h / 4) (by omega)).resolve_left (by omega)
    have hm1 := I.mate h hh
    have e2 : (T.getD (h / 4) 0).toNat = nu (h / 4) := by omega
    have e3 : (stT ms ms' T h).getD (mateN ms h / 4) 0 = (nu (mateN ms h / 4) : Int) := by
      unfold stT
      rw [if_neg h1, e2, hm1]
      by_cases h2 : T.getD (mateN ms h / 4) 0 < 0
      · rw [if_pos h2, getD_set1 (by omega), if_pos rfl]; omega
      · rw [if_neg h2]; exact (hR _ (by omega)).resolve_left (by omega)
    have e4 : ∀ c, c < n → c ≠ mateN ms h / 4 → (stT ms ms' T h).getD c 0 = T.getD c 0 := fun c hc hne => by
      unfold stT
      rw [if_neg h1]
      split
      · rw [getD_set1 (by omega), if_neg hne]
      · rfl
    refine ⟨fun c hc => ?_, fun c hc hp => ?_, fun _ => by omega, ?_⟩
    · by_cases hq : c = mateN ms h / 4
      · subst hq; exact .inr e3
      · rw [e4 c hc hq]; exact hR c hc
    · by_cases hq : c = mateN ms h / 4
      · subst hq; omega
      · rw [e4 c hc hq]; exact hp
    · rw [e3, e2, hm1, Bool.true_and, decide_eq_true_iff]; omega
theorem ps_rt (I : Iso n xs xs' ms ms' nu) (hm : Mates ms) (hm' : Mates ms') (hl : ms.length = 4 * n) (hl' : ms'.length = 4 * n) {T : List Int} (hT : Rng n T) (hR : Rt n nu T) : ∀ {h}, h ≤ 4 * n →
    Rt n nu (ps ms ms' T true h).1 ∧ (∀ c, c < n → 0 ≤ T.getD c 0 → 0 ≤ (ps ms ms' T true h).1.getD c 0) ∧ (∀ g, g < h → 0 ≤ T.getD (g / 4) 0 → 0 ≤ (ps ms ms' T true h).1.getD (mateN ms g / 4) 0) ∧ (ps ms ms' T true h).2 = true
  | 0, _ => ⟨hR, fun _ _ h => h, fun g h => absurd h (Nat.not_lt_zero _), rfl⟩
  | h + 1, hh => by
    obtain ⟨a1, a2, a3, a4⟩ := ps_rt I hm hm' hl hl' hT hR (h := h) (by omega)
    obtain ⟨b1, b2, b3, b4⟩ := st_rt I hm hl (ps_rng (b := true) hm hm' hl hl' hT (h := h) (by omega)).1 a1 (h := h) (by omega)
    simp only [ps]
    refine ⟨b1, fun c hc hp => b2 c hc (a2 c hc hp), fun g hg hp => ?_, by rw [a4]; exact b4⟩
    have hgl := (mate_lt hm (h := g) (by omega)).1
    by_cases hq : g = h
    · subst hq; exact b3 (a2 _ (by omega) hp)
    · exact b2 _ (by omega) (a3 g (by omega) hp)
/-- How many are known. -/
def cntK (n : Nat) (T : List Int) : Nat := (List.range n).countP fun c => decide (0 ≤ T.getD c 0)
theorem countP_lt {l : List Nat} {p q : Nat → Bool} (h : ∀ x ∈ l, p x = true → q x = true) {a : Nat} (ha : a ∈ l) (h1 : p a = false) (h2 : q a = true) : l.countP p < l.countP q := by
  induction l with
  | nil => simp at ha
  | cons x l ih =>
    rw [List.countP_cons, List.countP_cons]
    have hle : l.countP p ≤ l.countP q := List.countP_mono_left fun y hy hp => h y (.tail _ hy) hp
    rcases List.mem_cons.1 ha with rfl | ha
    · rw [h1, h2]; simp; omega
    · have := ih (fun y hy => h y (.tail _ hy)) ha
      have hx := h x (.head _)
      by_cases hp : p x = true
      · rw [if_pos hp, if_pos (hx hp)]; omega
      · rw [if_neg hp]; split <;> omega
/-- Each half-edge can be reached. -/
def Conn (n : Nat) (ms : List Int) : Prop := ∀ K : Nat → Prop, K 0 → (∀ h, h < 4 * n → K (h / 4) → K (mateN ms h / 4)) → ∀ c, c < n → K c
theorem pss_rt (I : Iso n xs xs' ms ms' nu) (hm : Mates ms) (hm' : Mates ms') (hl : ms.length = 4 * n) (hl' : ms'.length = 4 * n) (hn : 0 < n) (hC : Conn n ms) : ∀ p,
    Rt n nu (pss ms ms' (iniT n (nu 0)) true p).1 ∧ (pss ms ms' (iniT n (nu 0)) true p).2 = true ∧ 0 ≤ (pss ms ms' (iniT n (nu 0)) true p).1.getD 0 0 ∧ ((∀ c, c < n → 0 ≤ (pss ms ms' (iniT n (nu 0)) true p).1.getD c 0) ∨ p + 1 ≤ cntK n (pss ms ms' (iniT n (nu 0)) true p).1)
  | 0 => by
    have h0 : (iniT n (nu 0)).getD 0 0 = (nu 0 : Int) := by rw [ini_get hn hn, if_pos rfl]
    refine ⟨fun c hc => ?_, rfl, ?_, .inr ?_⟩
    · show (iniT n (nu 0)).getD c 0 = -1 ∨ _
      rw [ini_get hn hc]
      by_cases hc0 : c = 0
      · subst hc0; exact .inr h0
      · rw [if_neg hc0]; exact .inl rfl
    · show 0 ≤ (iniT n (nu 0)).getD 0 0
      omega
    · show 1 ≤ cntK n (iniT n (nu 0))
      unfold cntK
      rw [Nat.one_le_iff_ne_zero]
      intro h
      rw [List.countP_eq_zero] at h
      exact h 0 (List.mem_range.2 hn) (by simp only [decide_eq_true_eq]; omega)
  | p + 1 => by
    obtain ⟨a1, a2, a3, a4⟩ := pss_rt I hm hm' hl hl' hn hC p
    have hr := pss_rng (b := true) hm hm' hl hl' (ini_rng (I.lt 0 hn)) p
    simp only [pss]
    rw [a2]
    generalize (pss ms ms' (iniT n (nu 0)) true p).1 = T at *
    obtain ⟨b1, b2, b3, b4⟩ := ps_rt I hm hm' hl hl' hr a1 (h := ms.length) (by omega)
    refine ⟨b1, b4, b2 0 hn a3, ?_⟩
    generalize (ps ms ms' T true ms.length).1 = T' at *
    by_cases hall : ∀ c, c < n → 0 ≤ T.getD c 0
    · exact .inl fun c hc => b2 c hc (hall c hc)
    · refine .inr ?_
      have hk := a4.resolve_left hall
      have : ∃ h, h < 4 * n ∧ 0 ≤ T.getD (h / 4) 0 ∧ ¬ 0 ≤ T.getD (mateN ms h / 4) 0 := by
        refine Classical.byContradiction fun hno => hall (hC (fun c => 0 ≤ T.getD c 0) a3 fun h hh hp => ?_)
        exact Classical.byContradiction fun hq => hno ⟨h, hh, hp, hq⟩
      obtain ⟨h, hh, hp, hq⟩ := this
      have hgl := (mate_lt hm (h := h) (by omega)).1
      have := countP_lt (l := List.range n) (p := fun c => decide (0 ≤ T.getD c 0)) (q := fun c => decide (0 ≤ T'.getD c 0)) (fun x hx hp => by
        simp only [decide_eq_true_eq] at hp ⊢
        exact b2 x (List.mem_range.1 hx) hp) (a := mateN ms h / 4) (List.mem_range.2 (by omega)) (by simpa using hq) (by simpa using b3 h (by omega) hp)
      unfold cntK at hk ⊢
      omega
/-- If there is a correspondence, it is found. -/
theorem iso_found (I : Iso n xs xs' ms ms' nu) (hm : Mates ms) (hm' : Mates ms') (hl : ms.length = 4 * n) (hl' : ms'.length = 4 * n) (hn : 0 < n) (hC : Conn n ms) :
    sgT xs xs' (pss ms ms' (iniT n (nu 0)) true (n + 1)).1 (pss ms ms' (iniT n (nu 0)) true (n + 1)).2 n = true := by
  obtain ⟨a1, a2, a3, a4⟩ := pss_rt I hm hm' hl hl' hn hC (n + 1)
  rw [a2]
  have hall : ∀ c, c < n → 0 ≤ (pss ms ms' (iniT n (nu 0)) true (n + 1)).1.getD c 0 := by
    refine a4.resolve_right fun h => ?_
    have : cntK n (pss ms ms' (iniT n (nu 0)) true (n + 1)).1 ≤ n := by
      unfold cntK
      exact Nat.le_trans List.countP_le_length (by simp)
    omega
  generalize (pss ms ms' (iniT n (nu 0)) true (n + 1)).1 = T at *
  have : ∀ c, c ≤ n → sgT xs xs' T true c = true := by
    intro c
    induction c with
    | zero => intro _; rfl
    | succ c ih =>
      intro hc
      have h1 := hall c (by omega)
      have h2 := (a1 c (by omega)).resolve_left (by omega)
      simp only [sgT, ih (by omega), Bool.true_and, Bool.and_eq_true, decide_eq_true_eq]
      refine ⟨h1, ?_⟩
      rw [h2, Int.toNat_natCast, I.sgn c (by omega)]
  exact this n (Nat.le_refl _)
end Go.Proofs.Ytooafhbjbpaacaa
