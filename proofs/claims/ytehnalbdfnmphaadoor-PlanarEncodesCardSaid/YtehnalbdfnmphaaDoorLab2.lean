/- Labels: plain. -/
import Derived.Test.YtehnalbdfnmphaaDoorLabel
import Derived.Test.YtehnalbdfnmphaaDoorOrbit
namespace Go.Proofs.YtehnalbdfnmphaaDoor
open Go.Ab
set_option linter.unusedVariables false

/-- Two crossings share an edge. -/
def Step (ms : List Int) (c d : Nat) : Prop := ∃ h, h < ms.length ∧ h / 4 = c ∧ mateN ms h / 4 = d
def Reach (ms : List Int) : Nat → Nat → Nat → Prop
  | 0, c, d => c = d
  | p + 1, c, d => ∃ e, Step ms c e ∧ Reach ms p e d

theorem labStep_get {ms ls : List Int} {h : Nat} (ha : h / 4 < ls.length) (hb : mateN ms h / 4 < ls.length) (k : Nat) :
    (labStep ms ls h).getD k 0 = if k = h / 4 ∨ k = mateN ms h / 4 then min (ls.getD (h / 4) 0) (ls.getD (mateN ms h / 4) 0) else ls.getD k 0 := by
  unfold labStep
  simp only [List.getD_eq_getElem?_getD]
  rw [List.getElem?_set, List.getElem?_set, List.length_set]
  by_cases h1 : mateN ms h / 4 = k
  · subst h1
    rw [if_pos rfl, if_pos hb, if_pos (.inr rfl)]; rfl
  · rw [if_neg h1]
    by_cases h2 : h / 4 = k
    · subst h2
      rw [if_pos rfl, if_pos ha, if_pos (.inl rfl)]; rfl
    · rw [if_neg h2, if_neg (by omega)]

/-- Half-edges and crossings fit. -/
structure Fits (ms : List Int) (n : Nat) : Prop where
  n4 : n * 4 = ms.length
  mate : ∀ h, h < ms.length → mateN ms h < ms.length

theorem labStep_le {ms ls : List Int} {n h : Nat} (hf : Fits ms n) (hl : ls.length = n) (hh : h < ms.length) (k : Nat) : (labStep ms ls h).getD k 0 ≤ ls.getD k 0 := by
  have h1 := hf.n4
  have h2 := hf.mate h hh
  rw [labStep_get (by omega) (by omega)]
  split
  · rename_i he
    rcases he with rfl | rfl <;> omega
  · exact Int.le_refl _

theorem labPass_le {ms ls : List Int} {n : Nat} (hf : Fits ms n) (hl : ls.length = n) : ∀ m, m ≤ ms.length → ∀ k, (labPass ms ls m).getD k 0 ≤ ls.getD k 0
  | 0, _, k => Int.le_refl _
  | m + 1, hm, k => by
    rw [labPass_succ]
    exact Int.le_trans (labStep_le hf (by rw [labPass_len, hl]) (by omega) k) (labPass_le hf hl m (by omega) k)

theorem labPass_edge {ms ls : List Int} {n : Nat} (hf : Fits ms n) (hl : ls.length = n) : ∀ m, m ≤ ms.length → ∀ h, h < m → (labPass ms ls m).getD (h / 4) 0 ≤ ls.getD (mateN ms h / 4) 0
  | 0, _, h, hh => by omega
  | m + 1, hm, h, hh => by
    rw [labPass_succ]
    have hl2 : (labPass ms ls m).length = n := by rw [labPass_len, hl]
    rcases Nat.lt_or_ge h m with hlt | hge
    · exact Int.le_trans (labStep_le hf hl2 (by omega) _) (labPass_edge hf hl m (by omega) h hlt)
    · have : h = m := by omega
      subst this
      have h1 := hf.n4
      have h2 := hf.mate h (by omega)
      rw [labStep_get (by omega) (by omega), if_pos (.inl rfl)]
      have := labPass_le hf hl h (by omega) (mateN ms h / 4)
      omega

/-- After p passes a label is at most each crossing within p steps. -/
theorem labIter_reach {ms : List Int} {n : Nat} (hf : Fits ms n) : ∀ (p c d : Nat), c < n → Reach ms p c d → (labIter ms n p).getD c 0 ≤ d
  | 0, c, d, hc, hr => by
    cases hr
    unfold labIter initL
    simp [hc, List.getD]
  | p + 1, c, d, hc, ⟨e, ⟨h, h1, h2, h3⟩, hr⟩ => by
    subst h2 h3
    have h4 := hf.n4
    have h5 := hf.mate h h1
    unfold labIter
    exact Int.le_trans (labPass_edge hf (labIter_len ms n p) ms.length (Nat.le_refl _) h h1) (labIter_reach hf p _ d (by omega) hr)

/-- Each label is a crossing that is reached. -/
def Joined (ms : List Int) (n : Nat) (ls : List Int) : Prop := ∀ c, c < n → ∃ e q : Nat, ls.getD c 0 = (e : Int) ∧ e < n ∧ Reach ms q c e

theorem Mates.fits {ms : List Int} (hm : Mates ms) : Fits ms (ms.length / 4) := by
  refine ⟨by have := hm.four; omega, fun h hh => ?_⟩
  obtain ⟨m, h1, h2⟩ := hm.get h hh
  unfold mateN
  rw [getD_at h1]; simpa using h2

theorem mate_mate {ms : List Int} (hm : Mates ms) (hv : Inv ms) {h : Nat} (hh : h < ms.length) : mateN ms (mateN ms h) = h := by
  obtain ⟨m, h1, h2⟩ := hm.get h hh
  have h3 := hv _ _ h1
  have h4 : mateN ms h = m := by unfold mateN; rw [getD_at h1]; simp
  rw [h4]
  unfold mateN
  rw [getD_at h3]; simp

theorem Step.symm {ms : List Int} (hm : Mates ms) (hv : Inv ms) {c d : Nat} (hs : Step ms c d) : Step ms d c := by
  obtain ⟨h, h1, h2, h3⟩ := hs
  exact ⟨mateN ms h, hm.fits.mate h h1, h3, by rw [mate_mate hm hv h1, h2]⟩

theorem joined_step {ms ls : List Int} {n h : Nat} (hm : Mates ms) (hv : Inv ms) (hf : Fits ms n) (hl : ls.length = n) (hh : h < ms.length) (hj : Joined ms n ls) : Joined ms n (labStep ms ls h) := by
  intro c hc
  have h4 := hf.n4
  have h5 := hf.mate h hh
  rw [labStep_get (by omega) (by omega)]
  have hst : Step ms (h / 4) (mateN ms h / 4) := ⟨h, hh, rfl, rfl⟩
  split
  · obtain ⟨e1, q1, a1, a2, a3⟩ := hj (h / 4) (by omega)
    obtain ⟨e2, q2, b1, b2, b3⟩ := hj (mateN ms h / 4) (by omega)
    rw [a1, b1]
    by_cases hmin : e1 ≤ e2
    · rename_i hc2
      rw [show min (e1 : Int) (e2 : Int) = (e1 : Int) by omega]
      rcases hc2 with rfl | rfl
      · exact ⟨e1, q1, rfl, a2, a3⟩
      · exact ⟨e1, q1 + 1, rfl, a2, _, Step.symm hm hv hst, a3⟩
    · rename_i hc2
      rw [show min (e1 : Int) (e2 : Int) = (e2 : Int) by omega]
      rcases hc2 with rfl | rfl
      · exact ⟨e2, q2 + 1, rfl, b2, _, hst, b3⟩
      · exact ⟨e2, q2, rfl, b2, b3⟩
  · exact hj c hc

theorem joined_pass {ms ls : List Int} {n : Nat} (hm : Mates ms) (hv : Inv ms) (hf : Fits ms n) (hl : ls.length = n) (hj : Joined ms n ls) : ∀ m, m ≤ ms.length → Joined ms n (labPass ms ls m)
  | 0, _ => hj
  | m + 1, h => by
    rw [labPass_succ]
    exact joined_step hm hv hf (by rw [labPass_len, hl]) (by omega) (joined_pass hm hv hf hl hj m (by omega))

theorem joined_iter {ms : List Int} {n : Nat} (hm : Mates ms) (hv : Inv ms) (hf : Fits ms n) : ∀ p, Joined ms n (labIter ms n p)
  | 0 => fun c hc => ⟨c, 0, by unfold labIter initL; simp [hc, List.getD], hc, rfl⟩
  | p + 1 => joined_pass hm hv hf (labIter_len ms n p) (joined_iter hm hv hf p) _ (Nat.le_refl _)

theorem Reach.trans {ms : List Int} : ∀ {a b c e d : Nat}, Reach ms a c e → Reach ms b e d → Reach ms (a + b) c d
  | 0, b, c, e, d, h1, h2 => by cases h1; simpa using h2
  | a + 1, b, c, e, d, ⟨x, h1, h2⟩, h3 => by
    rw [show a + 1 + b = (a + b) + 1 by omega]
    exact ⟨x, h1, Reach.trans h2 h3⟩

theorem Reach.walk {ms : List Int} : ∀ {q c d : Nat}, Reach ms q c d → ∃ v : Nat → Nat, v 0 = c ∧ v q = d ∧ ∀ i j, i + j ≤ q → Reach ms j (v i) (v (i + j))
  | 0, c, d, h => by
    cases h
    refine ⟨fun _ => c, rfl, rfl, fun i j hij => ?_⟩
    have : j = 0 := by omega
    subst this
    rfl
  | q + 1, c, d, ⟨e, h1, h2⟩ => by
    obtain ⟨v, v0, vq, hv⟩ := Reach.walk h2
    refine ⟨fun i => match i with | 0 => c | i + 1 => v i, rfl, vq, fun i j hij => ?_⟩
    cases i with
    | zero =>
      cases j with
      | zero => rfl
      | succ j =>
        rw [show 0 + (j + 1) = j + 1 by omega]
        refine ⟨e, h1, ?_⟩
        have := hv 0 j (by omega)
        rw [v0, Nat.zero_add] at this
        exact this
    | succ i =>
      rw [show i + 1 + j = (i + j) + 1 by omega]
      exact hv i j (by omega)

theorem step_lt {ms : List Int} {n c d : Nat} (hf : Fits ms n) (hs : Step ms c d) : c < n ∧ d < n := by
  obtain ⟨h, h1, rfl, rfl⟩ := hs
  have := hf.n4
  have := hf.mate h h1
  omega

theorem reach_lt {ms : List Int} {n : Nat} (hf : Fits ms n) : ∀ {q c d : Nat}, c < n → Reach ms q c d → d < n
  | 0, c, d, hc, h => by cases h; exact hc
  | q + 1, c, d, hc, ⟨e, h1, h2⟩ => reach_lt hf (step_lt hf h1).2 h2

/-- What is reached is reached in fewer than n steps. -/
theorem reach_short {ms : List Int} {n : Nat} (hf : Fits ms n) {c d : Nat} (hc : c < n) : ∀ q, Reach ms q c d → ∃ p, p < n ∧ Reach ms p c d := by
  intro q
  induction q using Nat.strongRecOn with
  | _ q ih =>
    intro hr
    by_cases hq : q < n
    · exact ⟨q, hq, hr⟩
    · obtain ⟨v, v0, vq, hv⟩ := hr.walk
      have hvn : ∀ i, i ≤ q → v i < n := fun i hi => by
        have := hv 0 i (by omega)
        rw [v0, Nat.zero_add] at this
        exact reach_lt hf hc this
      have hrep : ∃ i j, i < j ∧ j ≤ q ∧ v i = v j := by
        refine Classical.byContradiction fun hno => ?_
        have hnd : ((List.range (q + 1)).map v).Nodup := by
          unfold List.Nodup
          rw [List.pairwise_map]
          refine List.Pairwise.imp_of_mem (R := fun a b => a < b) ?_ List.pairwise_lt_range
          intro a b ha hb hab he
          simp only [List.mem_range] at ha hb
          exact hno ⟨a, b, hab, by omega, he⟩
        have := fit_len (T := List.range n) hnd (fun y hy => by
          simp only [List.mem_map, List.mem_range] at hy
          obtain ⟨j, hj, rfl⟩ := hy
          simpa using hvn j (by omega))
        simp at this
        omega
      obtain ⟨i, j, hij, hj, he⟩ := hrep
      have h1 := hv 0 i (by omega)
      have h2 := hv j (q - j) (by omega)
      rw [v0, Nat.zero_add, he] at h1
      rw [show j + (q - j) = q by omega, vq] at h2
      exact ih (i + (q - j)) (by omega) (h1.trans h2)

/-- The label: the least crossing that is reached. -/
theorem label_spec {ms : List Int} {n : Nat} (hm : Mates ms) (hv : Inv ms) (hf : Fits ms n) {c : Nat} (hc : c < n) :
    ∃ e : Nat, (labIter ms n n).getD c 0 = (e : Int) ∧ e < n ∧ (∃ q, Reach ms q c e) ∧ ∀ d q, Reach ms q c d → e ≤ d := by
  obtain ⟨e, q, h1, h2, h3⟩ := joined_iter hm hv hf n c hc
  refine ⟨e, h1, h2, ⟨q, h3⟩, fun d q hr => ?_⟩
  obtain ⟨p, hp, hr2⟩ := reach_short hf hc q hr
  have hmono : ∀ a b, (labIter ms n (a + b)).getD c 0 ≤ (labIter ms n a).getD c 0 := fun a b => by
    induction b with
    | zero => exact Int.le_refl _
    | succ b ih =>
      have := labPass_le hf (labIter_len ms n (a + b)) ms.length (Nat.le_refl _) c
      exact Int.le_trans this ih
  have h4 := hmono p (n - p)
  rw [show p + (n - p) = n by omega, h1] at h4
  have h5 := labIter_reach hf p c d hc hr2
  omega

end Go.Proofs.YtehnalbdfnmphaaDoor
