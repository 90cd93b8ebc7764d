/- Numbering the components by a search: plain. -/
import Derived.Test.YtehnalbdfnmphaaDoorV1
namespace Go.Proofs.YtehnalbdfnmphaaDoor
open Go.Ab
set_option linter.unusedVariables false

/-- How many have no number yet. -/
def unl (ps : List Int) : Nat := ps.countP fun x => x == -1

theorem unl_set {ps : List Int} {b : Nat} {p : Nat} (hb : b < ps.length) (h : ps.getD b 0 = -1) : unl (ps.set b p) + 1 = unl ps := by
  unfold unl
  have h1 : ps[b] = -1 := by rw [← h]; simp [List.getD, hb]
  rw [List.countP_set hb, h1]
  have : 0 < ps.countP fun x => x == -1 := List.countP_pos_iff.2 ⟨ps[b], List.getElem_mem hb, by rw [h1]; rfl⟩
  have h2 : (((p : Nat) : Int) == -1) = false := by
    rw [beq_eq_false_iff_ne]; omega
  simp [h2]; omega

theorem getD_set {ps : List Int} {b : Nat} {x : Int} (hb : b < ps.length) (k : Nat) : (ps.set b x).getD k 0 = if k = b then x else ps.getD k 0 := by
  simp only [List.getD_eq_getElem?_getD, List.getElem?_set]
  by_cases h : b = k
  · subst h; simp [hb]
  · rw [if_neg h, if_neg (Ne.symm h)]

/-- The search from c0, with number P; some are waiting, and `ex` says of which it is not yet known that they are done. -/
structure Bf (ms : List Int) (n : Nat) (ps : List Int) (P c0 : Nat) (q : List Nat) (ex : Nat → Prop) (k : Nat) : Prop where
  len : ps.length = n
  rng : ∀ b, b < n → ps.getD b 0 = -1 ∨ ∃ p : Nat, ps.getD b 0 = (p : Int) ∧ p ≤ P
  closed : ∀ b d, Step ms b d → ps.getD b 0 ≠ -1 → b ∉ q → ¬ ex b → ps.getD d 0 = ps.getD b 0
  qlab : ∀ b, b ∈ q → b < n ∧ ps.getD b 0 = (P : Int)
  conn : ∀ b, b < n → ps.getD b 0 = (P : Int) → ∃ r, Reach ms r c0 b
  old : ∀ b d, b < n → d < n → ps.getD b 0 = ps.getD d 0 → ps.getD b 0 ≠ -1 → ps.getD b 0 ≠ (P : Int) → ∃ r, Reach ms r b d
  hit : ∀ p, p ≤ P → ∃ c, c < n ∧ ps.getD c 0 = (p : Int)
  low : ∀ b, b < c0 → ps.getD b 0 ≠ -1
  root : c0 < n ∧ ps.getD c0 0 = (P : Int)
  num : P ≤ c0
  cnt : unl ps + q.length = k

/-- Between two searches: all below c have numbers. -/
structure Bo (ms : List Int) (n : Nat) (ps : List Int) (P c : Nat) : Prop where
  len : ps.length = n
  rng : ∀ b, b < n → ps.getD b 0 = -1 ∨ ∃ p : Nat, ps.getD b 0 = (p : Int) ∧ p < P
  closed : ∀ b d, Step ms b d → ps.getD b 0 ≠ -1 → ps.getD d 0 = ps.getD b 0
  old : ∀ b d, b < n → d < n → ps.getD b 0 = ps.getD d 0 → ps.getD b 0 ≠ -1 → ∃ r, Reach ms r b d
  hit : ∀ p, p < P → ∃ c, c < n ∧ ps.getD c 0 = (p : Int)
  low : ∀ b, b < c → ps.getD b 0 ≠ -1
  num : P ≤ c

theorem Bo.init {ms : List Int} {n : Nat} (hf : Fits ms n) : Bo ms n (List.replicate n (-1)) 0 0 := by
  have h : ∀ b, b < n → (List.replicate n (-1 : Int)).getD b 0 = -1 := fun b hb => by simp [List.getD, hb]
  exact ⟨by simp, fun b hb => .inl (h b hb), fun b d hs hb => absurd (h b (step_lt hf hs).1) hb, fun b d hb hd he hn => absurd (h b hb) hn, fun p hp => by omega, fun b hb => by omega, by omega⟩

theorem Bo.skip {ms : List Int} {n : Nat} {ps : List Int} {P c : Nat} (h : Bo ms n ps P c) (hc : ps.getD c 0 ≠ -1) : Bo ms n ps P (c + 1) :=
  ⟨h.len, h.rng, h.closed, h.old, h.hit, fun b hb => by
    rcases Nat.lt_or_ge b c with h1 | h1
    · exact h.low b h1
    · have : b = c := by omega
      subst this; exact hc, by have := h.num; omega⟩

theorem Bo.start {ms : List Int} {n : Nat} {ps : List Int} {P c : Nat} (h : Bo ms n ps P c) (hc : ps.getD c 0 = -1) (hn : c < n) : Bf ms n (ps.set c P) P c [c] (fun _ => False) (unl ps) := by
  have hl : c < ps.length := by rw [h.len]; exact hn
  have g := fun k => getD_set (x := (P : Int)) hl k
  refine ⟨by rw [List.length_set]; exact h.len, fun b hb => ?_, fun b d hs hb hq _ => ?_, fun b hb => ?_, fun b hb he => ?_, fun b d hb hd he hn1 hn2 => ?_, fun p hp => ?_, fun b hb => ?_, ⟨hn, by rw [g, if_pos rfl]⟩, h.num, ?_⟩
  · rw [g]
    split
    · exact .inr ⟨P, rfl, Nat.le_refl _⟩
    · rcases h.rng b hb with h1 | ⟨p, h1, h2⟩
      · exact .inl h1
      · exact .inr ⟨p, h1, by omega⟩
  · have hbc : b ≠ c := by simpa using hq
    have gb := g b
    rw [if_neg hbc] at gb
    rw [gb] at hb ⊢
    have h1 := h.closed b d hs hb
    rw [g d, if_neg (fun e => by subst e; exact hb (h1.symm.trans hc))]
    exact h1
  · have : b = c := by simpa using hb
    subst this
    exact ⟨hn, by rw [g, if_pos rfl]⟩
  · by_cases hbc : b = c
    · subst hbc; exact ⟨0, rfl⟩
    · rw [g, if_neg hbc] at he
      rcases h.rng b hb with h1 | ⟨p, h1, h2⟩ <;> omega
  · have hbc : b ≠ c := fun e => by subst e; rw [g, if_pos rfl] at hn2; exact hn2 rfl
    have hdc : d ≠ c := fun e => by
      subst e
      have := g d
      rw [if_pos rfl] at this
      rw [this] at he
      exact hn2 he
    rw [g, if_neg hbc] at he hn1
    rw [g, if_neg hdc] at he
    exact h.old b d hb hd he hn1
  · by_cases h1 : p = P
    · subst h1; exact ⟨c, hn, by rw [g, if_pos rfl]⟩
    · obtain ⟨e, e1, e2⟩ := h.hit p (by omega)
      exact ⟨e, e1, by rw [g, if_neg (fun h => by subst h; omega)]; exact e2⟩
  · rw [g, if_neg (by omega)]; exact h.low b hb
  · rw [List.length_singleton]; exact unl_set hl hc

/-- The first one that waits is taken. -/
theorem Bf.pop {ms : List Int} {n : Nat} {ps : List Int} {P c0 a k : Nat} {r : List Nat} (h : Bf ms n ps P c0 (a :: r) (fun _ => False) (k + 1)) : Bf ms n ps P c0 r (fun b => b = a) k :=
  ⟨h.len, h.rng, fun b d hs hb hq hx => h.closed b d hs hb (by simp only [List.mem_cons, not_or]; exact ⟨hx, hq⟩) (fun h => h), fun b hb => h.qlab b (List.mem_cons_of_mem _ hb), h.conn, h.old, h.hit, h.low, h.root, h.num, by
    have := h.cnt; simp at this; omega⟩

/-- The far end of an edge that has a number has this one. -/
theorem Bf.seen {ms : List Int} {n : Nat} {ps : List Int} {P c0 a k d : Nat} {q : List Nat} (hm : Mates ms) (hv : Inv ms) (hf : Fits ms n) (h : Bf ms n ps P c0 q (fun b => b = a) k) (ha : ps.getD a 0 = (P : Int)) (hs : Step ms a d) (hd : ps.getD d 0 ≠ -1) : ps.getD d 0 = (P : Int) := by
  refine Classical.byContradiction fun hne => ?_
  have h1 := h.closed d a (Step.symm hm hv hs) hd (fun hq => hne (h.qlab d hq).2) (fun e => by subst e; exact hne ha)
  exact hne (h1.symm.trans ha)

/-- One more is found. -/
theorem Bf.push {ms : List Int} {n : Nat} {ps : List Int} {P c0 a k d : Nat} {q : List Nat} (hf : Fits ms n) (h : Bf ms n ps P c0 q (fun b => b = a) k) (ha : ps.getD a 0 = (P : Int)) (hs : Step ms a d) (hd : ps.getD d 0 = -1) : Bf ms n (ps.set d P) P c0 (q ++ [d]) (fun b => b = a) k := by
  obtain ⟨han, hdn⟩ := step_lt hf hs
  have hl : d < ps.length := by rw [h.len]; exact hdn
  have g := fun k => getD_set (x := (P : Int)) hl k
  refine ⟨by rw [List.length_set]; exact h.len, fun b hb => ?_, fun b e hse hb hq hx => ?_, fun b hb => ?_, fun b hb he => ?_, fun b e hb he heq hn1 hn2 => ?_, fun p hp => ?_, fun b hb => ?_, ⟨h.root.1, ?_⟩, h.num, ?_⟩
  · rw [g]
    split
    · exact .inr ⟨P, rfl, Nat.le_refl _⟩
    · exact h.rng b hb
  · simp only [List.mem_append, List.mem_singleton, not_or] at hq
    have gb := g b
    rw [if_neg hq.2] at gb
    rw [gb] at hb ⊢
    have h1 := h.closed b e hse hb hq.1 hx
    rw [g e, if_neg (fun e' => by subst e'; exact hb (h1.symm.trans hd))]
    exact h1
  · simp only [List.mem_append, List.mem_singleton] at hb
    rcases hb with hb | rfl
    · obtain ⟨h1, h2⟩ := h.qlab b hb
      refine ⟨h1, ?_⟩
      rw [g]; split
      · rfl
      · exact h2
    · exact ⟨hdn, by rw [g, if_pos rfl]⟩
  · by_cases hbc : b = d
    · subst hbc
      obtain ⟨r, hr⟩ := h.conn a han ha
      exact ⟨r + 1, Reach.trans hr (show Reach ms 1 a b from ⟨b, hs, rfl⟩)⟩
    · rw [g, if_neg hbc] at he
      exact h.conn b hb he
  · have hbd : b ≠ d := fun e => by subst e; rw [g, if_pos rfl] at hn2; exact hn2 rfl
    have hed : e ≠ d := fun e' => by
      subst e'
      have := g e
      rw [if_pos rfl] at this
      rw [this] at heq
      exact hn2 heq
    rw [g, if_neg hbd] at heq hn1 hn2
    rw [g, if_neg hed] at heq
    exact h.old b e hb he heq hn1 hn2
  · obtain ⟨e, e1, e2⟩ := h.hit p hp
    exact ⟨e, e1, by rw [g, if_neg (fun h => by subst h; omega)]; exact e2⟩
  · rw [g]; split
    · omega
    · exact h.low b hb
  · rw [g]; split
    · rfl
    · exact h.root.2
  · have := unl_set (p := P) hl hd
    have := h.cnt
    simp; omega

/-- All four edges are looked at. -/
theorem Bf.done {ms : List Int} {n : Nat} {ps : List Int} {P c0 a k : Nat} {q : List Nat} (h : Bf ms n ps P c0 q (fun b => b = a) k) (ha : ps.getD a 0 = (P : Int)) (hall : ∀ s, s < 4 → ps.getD (mateN ms (4 * a + s) / 4) 0 = (P : Int)) : Bf ms n ps P c0 q (fun _ => False) k :=
  ⟨h.len, h.rng, fun b d hs hb hq _ => by
    by_cases hba : b = a
    · subst hba
      obtain ⟨e, e1, e2, e3⟩ := hs
      have := hall (e % 4) (by omega)
      rw [show 4 * b + e % 4 = e by omega, e3] at this
      rw [this, ha]
    · exact h.closed b d hs hb hq hba, h.qlab, h.conn, h.old, h.hit, h.low, h.root, h.num, h.cnt⟩

/-- Nothing waits any more. -/
theorem Bf.out {ms : List Int} {n : Nat} {ps : List Int} {P c0 k : Nat} (hm : Mates ms) (hv : Inv ms) (h : Bf ms n ps P c0 [] (fun _ => False) k) : Bo ms n ps (P + 1) (c0 + 1) :=
  ⟨h.len, fun b hb => (h.rng b hb).imp id fun ⟨p, h1, h2⟩ => ⟨p, h1, by omega⟩, fun b d hs hb => h.closed b d hs hb (by simp) (fun h => h), fun b d hb hd he hn => by
    by_cases hP : ps.getD b 0 = (P : Int)
    · obtain ⟨r1, h1⟩ := h.conn b hb hP
      obtain ⟨r2, h2⟩ := h.conn d hd (he.symm.trans hP)
      exact ⟨_, (Reach.symm hm hv h1).trans h2⟩
    · exact h.old b d hb hd he hn hP, fun p hp => h.hit p (by omega), fun b hb => by
    rcases Nat.lt_or_ge b c0 with h1 | h1
    · exact h.low b h1
    · have : b = c0 := by omega
      subst this
      rw [h.root.2]; omega, by have := h.num; omega⟩

theorem Bo.reach {ms : List Int} {n : Nat} {ps : List Int} {P c : Nat} (h : Bo ms n ps P c) : ∀ {q b d : Nat}, ps.getD b 0 ≠ -1 → Reach ms q b d → ps.getD d 0 = ps.getD b 0
  | 0, b, d, hb, hr => by cases hr; rfl
  | q + 1, b, d, hb, ⟨e, h1, h2⟩ => by
    have h3 := h.closed b e h1 hb
    rw [← h3]
    exact Bo.reach h (by rw [h3]; exact hb) h2

theorem Bo.parts {ms : List Int} {n : Nat} {ps : List Int} {P : Nat} (h : Bo ms n ps P n) : Parts ms n ps P :=
  ⟨h.len, fun c hc => (h.rng c hc).resolve_left (h.low c hc), fun b c hb hc => ⟨fun he => h.old b c hb hc he (h.low b hb), fun ⟨q, hq⟩ => (h.reach (h.low b hb) hq).symm⟩, h.hit⟩

end Go.Proofs.YtehnalbdfnmphaaDoor
