/- Partitions that are merged along edges; trees: plain. -/
import Derived.Test.YtooafhbjbpaacaaFaces2
namespace Go.Proofs.Ytooafhbjbpaacaa
set_option linter.unusedVariables false

/-- Each node below n has a representative. -/
structure Ptn (n : Nat) (L : Nat → Nat) : Prop where
  lt : ∀ c, c < n → L c < n
  id : ∀ c, c < n → L (L c) = L c
def mrg (L : Nat → Nat) (a b c : Nat) : Nat := if L c = L a then L b else L c
def cls (n : Nat) (L : Nat → Nat) : Nat := (List.range n).countP fun c => L c == c
theorem Ptn.mrg {n : Nat} {L : Nat → Nat} (P : Ptn n L) {a b : Nat} (ha : a < n) (hb : b < n) : Ptn n (mrg L a b) := by
  refine ⟨fun c hc => ?_, fun c hc => ?_⟩
  · show (if L c = L a then L b else L c) < n
    split
    · exact P.lt b hb
    · exact P.lt c hc
  · show (if L (if L c = L a then L b else L c) = L a then L b else L (if L c = L a then L b else L c)) = if L c = L a then L b else L c
    by_cases h : L c = L a
    · rw [if_pos h, P.id b hb]; split <;> rfl
    · rw [if_neg h, P.id c hc, if_neg h]
theorem countP_out {l : List Nat} {p : Nat → Bool} {x : Nat} (hn : l.Nodup) (hx : x ∈ l) (hp : p x = true) : l.countP (fun c => p c && !(c == x)) + 1 = l.countP p := by
  induction l with
  | nil => simp at hx
  | cons y l ih =>
    have hn2 := List.nodup_cons.1 hn
    rw [List.countP_cons, List.countP_cons]
    by_cases h : y = x
    · subst h
      have e : l.countP (fun c => p c && !(c == y)) = l.countP p := by
        refine List.countP_congr fun z hz => ?_
        have : z ≠ y := fun e => hn2.1 (e ▸ hz)
        simp [this]
      rw [e]; simp [hp]
    · have hxl : x ∈ l := (List.mem_cons.1 hx).resolve_left fun e => h e.symm
      have := ih hn2.2 hxl
      have e : (p y && !(y == x)) = p y := by simp [h]
      rw [e]; omega
theorem mrg_cls {n : Nat} {L : Nat → Nat} (P : Ptn n L) {a b : Nat} (ha : a < n) (hb : b < n) (h : L a ≠ L b) : cls n (mrg L a b) + 1 = cls n L := by
  unfold cls
  rw [← countP_out (l := List.range n) (p := fun c => L c == c) (x := L a) List.nodup_range (List.mem_range.2 (P.lt a ha)) (by simp [P.id a ha])]
  congr 1
  refine List.countP_congr fun c hc => ?_
  have hcn := List.mem_range.1 hc
  simp only [mrg, Bool.and_eq_true, beq_iff_eq, Bool.not_eq_true', beq_eq_false_iff_ne, ne_eq]
  by_cases e : L c = L a
  · rw [if_pos e]
    constructor
    · intro h1
      exfalso
      apply h
      rw [← e, ← h1, P.id b hb]
    · rintro ⟨h1, h2⟩
      exact absurd (h1.symm.trans e) h2
  · rw [if_neg e]
    constructor
    · intro h1
      exact ⟨h1, fun h2 => e (by rw [h2, P.id a ha])⟩
    · exact fun h1 => h1.1

/-! ### Edges are added one at a time (the head of the list is the last one) -/
variable {n : Nat} (p q : Nat → Nat)
def krL : List Nat → Nat → Nat
  | [] => fun c => c
  | h :: E => if krL E (p h) = krL E (q h) then krL E else mrg (krL E) (p h) (q h)
def krT : List Nat → List Nat
  | [] => []
  | h :: E => if krL p q E (p h) = krL p q E (q h) then krT E else h :: krT E
def krC : List Nat → List Nat
  | [] => []
  | h :: E => if krL p q E (p h) = krL p q E (q h) then h :: krC E else krC E
variable {p q}
theorem kr_ptn : ∀ {E : List Nat}, (∀ h ∈ E, p h < n ∧ q h < n) → Ptn n (krL p q E)
  | [], _ => ⟨fun c hc => hc, fun c _ => rfl⟩
  | h :: E, hE => by
    have P := kr_ptn (E := E) fun g hg => hE g (.tail _ hg)
    obtain ⟨a, b⟩ := hE h (.head _)
    unfold krL
    split
    · exact P
    · exact P.mrg a b
theorem kr_join : ∀ {E : List Nat}, (∀ h ∈ E, p h < n ∧ q h < n) → ∀ h ∈ E, krL p q E (p h) = krL p q E (q h)
  | [], _, h, hh => by simp at hh
  | g :: E, hE, h, hh => by
    have P := kr_ptn (n := n) (E := E) fun g hg => hE g (.tail _ hg)
    unfold krL
    by_cases e : krL p q E (p g) = krL p q E (q g)
    · rw [if_pos e]
      rcases List.mem_cons.1 hh with rfl | hh
      · exact e
      · exact kr_join (fun g hg => hE g (.tail _ hg)) h hh
    · rw [if_neg e]
      rcases List.mem_cons.1 hh with rfl | hh
      · unfold mrg; rw [if_pos rfl, if_neg (fun h => e h.symm)]
      · have := kr_join (E := E) (fun g hg => hE g (.tail _ hg)) h hh
        unfold mrg; rw [this]
theorem kr_cls : ∀ {E : List Nat}, (∀ h ∈ E, p h < n ∧ q h < n) → cls n (krL p q E) + (krT p q E).length = n
  | [], _ => by
    show (List.range n).countP _ + 0 = n
    rw [List.countP_eq_length.2 (by simp [krL])]; simp
  | h :: E, hE => by
    have P := kr_ptn (n := n) (E := E) fun g hg => hE g (.tail _ hg)
    have ih := kr_cls (E := E) fun g hg => hE g (.tail _ hg)
    obtain ⟨a, b⟩ := hE h (.head _)
    unfold krL krT
    by_cases e : krL p q E (p h) = krL p q E (q h)
    · rw [if_pos e, if_pos e]; exact ih
    · rw [if_neg e, if_neg e, List.length_cons]
      have := mrg_cls P a b e
      omega
theorem kr_len : ∀ {E : List Nat}, (krT p q E).length + (krC p q E).length = E.length
  | [] => rfl
  | h :: E => by
    have ih := kr_len (E := E)
    unfold krT krC
    split <;> simp only [List.length_cons] <;> omega
end Go.Proofs.Ytooafhbjbpaacaa
