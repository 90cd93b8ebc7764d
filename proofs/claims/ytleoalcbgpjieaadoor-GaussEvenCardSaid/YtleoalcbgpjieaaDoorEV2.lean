/- Edges are added one at a time; trees: plain. -/
import Derived.Test.YtleoalcbgpjieaaDoorEU1
namespace Go.Proofs.YtleoalcbgpjieaaDoor
set_option linter.unusedVariables false
/-! ### Edges are added one at a time (the head of the list is the last one) -/
variable {n : Nat} (p q : Nat → Nat)
def krL : List Nat → Nat → Nat
  | [] => fun c => c
  | h :: E => if krL E (p h) = krL E (q h) then krL E else mrg (krL E) (p h) (q h)
def krT : List Nat → List Nat
  | [] => []
  | h :: E => if krL p q E (p h) = krL p q E (q h) then krT E else h :: krT E
def krC : List Nat → List Nat
  | [] => []
  | h :: E => if krL p q E (p h) = krL p q E (q h) then h :: krC E else krC E
variable {p q}
theorem kr_ptn : ∀ {E : List Nat}, (∀ h ∈ E, p h < n ∧ q h < n) → Ptn n (krL p q E)
  | [], _ => ⟨fun c hc => hc, fun c _ => rfl⟩
  | h :: E, hE => by
    have P := kr_ptn (E := E) fun g hg => hE g (.tail _ hg)
    obtain ⟨a, b⟩ := hE h (.head _)
    unfold krL
    split
    · exact P
    · exact P.mrg a b
theorem kr_join : ∀ {E : List Nat}, (∀ h ∈ E, p h < n ∧ q h < n) → ∀ h ∈ E, krL p q E (p h) = krL p q E (q h)
  | [], _, h, hh => by simp at hh
  | g :: E, hE, h, hh => by
    have P := kr_ptn (n := n) (E := E) fun g hg => hE g (.tail _ hg)
    unfold krL
    by_cases e : krL p q E (p g) = krL p q E (q g)
    · rw [if_pos e]
      rcases List.mem_cons.1 hh with rfl | hh
      · exact e
      · exact kr_join (fun g hg => hE g (.tail _ hg)) h hh
    · rw [if_neg e]
      rcases List.mem_cons.1 hh with rfl | hh
      · unfold mrg; rw [if_pos rfl, if_neg (fun h => e h.symm)]
      · have := kr_join (E := E) (fun g hg => hE g (.tail _ hg)) h hh
        unfold mrg; rw [this]
theorem kr_cls : ∀ {E : List Nat}, (∀ h ∈ E, p h < n ∧ q h < n) → cls n (krL p q E) + (krT p q E).length = n
  | [], _ => by
    show (List.range n).countP _ + 0 = n
    rw [List.countP_eq_length.2 (by simp [krL])]; simp
  | h :: E, hE => by
    have P := kr_ptn (n := n) (E := E) fun g hg => hE g (.tail _ hg)
    have ih := kr_cls (E := E) fun g hg => hE g (.tail _ hg)
    obtain ⟨a, b⟩ := hE h (.head _)
    unfold krL krT
    by_cases e : krL p q E (p h) = krL p q E (q h)
    · rw [if_pos e, if_pos e]; exact ih
    · rw [if_neg e, if_neg e, List.length_cons]
      have := mrg_cls P a b e
      omega
theorem kr_len : ∀ {E : List Nat}, (krT p q E).length + (krC p q E).length = E.length
  | [] => rfl
  | h :: E => by
    have ih := kr_len (E := E)
    unfold krT krC
    split <;> simp only [List.length_cons] <;> omega
end Go.Proofs.YtleoalcbgpjieaaDoor


namespace Go.Proofs.YtleoalcbgpjieaaDoor
set_option linter.unusedVariables false
variable {n : Nat} {p q : Nat → Nat}

/-- A sum of bits. -/
def smB (f : Nat → Bool) : List Nat → Bool
  | [] => false
  | h :: E => xor (f h) (smB f E)
theorem smB_none {f : Nat → Bool} : ∀ {E : List Nat}, (∀ h ∈ E, f h = false) → smB f E = false
  | [], _ => rfl
  | h :: E, hE => by rw [smB, hE h (.head _), smB_none fun g hg => hE g (.tail _ hg)]; rfl
/-- How often an edge ends in S, if it is taken. -/
def dgB (p q : Nat → Nat) (y S : Nat → Bool) (h : Nat) : Bool := xor (y h && S (p h)) (y h && S (q h))
theorem leaf : ∀ {E : List Nat} {y : Nat → Bool}, (∀ h ∈ E, p h < n ∧ q h < n) → (∀ h ∈ krC p q E, y h = false) → (∀ S, smB (dgB p q y S) E = false) → ∀ h ∈ E, y h = false
  | [], _, _, _, _, h, hh => by simp at hh
  | g :: E, y, hE, hC, hd, h, hh => by
    have hE2 : ∀ h ∈ E, p h < n ∧ q h < n := fun g hg => hE g (.tail _ hg)
    have hg0 : y g = false := by
      by_cases e : krL p q E (p g) = krL p q E (q g)
      · refine hC g ?_
        rw [krC, if_pos e]; exact .head _
      · have hS := hd fun c => krL p q E c == krL p q E (p g)
        rw [smB, smB_none (E := E) fun k hk => ?_] at hS
        · simp only [dgB, beq_self_eq_true, Bool.and_true, Bool.xor_false] at hS
          have : (krL p q E (q g) == krL p q E (p g)) = false := by simpa using fun h => e h.symm
          rw [this] at hS
          simpa using hS
        · simp only [dgB]
          rw [kr_join hE2 k hk]; simp
    rcases List.mem_cons.1 hh with rfl | hh
    · exact hg0
    · refine leaf hE2 (fun k hk => ?_) (fun S => ?_) h hh
      · refine hC k ?_
        rw [krC]; split
        · exact .tail _ hk
        · exact hk
      · have := hd S
        rw [smB] at this
        have e : dgB p q y S g = false := by simp [dgB, hg0]
        rw [e] at this
        simpa using this
/-- If each edge joins two classes when it is added, any wish can be met. -/
theorem build : ∀ {E : List Nat} (x : Nat → Bool), (∀ h ∈ E, p h < n ∧ q h < n) → (krT p q E).length = E.length → ∃ b : Nat → Bool, ∀ h ∈ E, xor (b (p h)) (b (q h)) = x h
  | [], _, _, _ => ⟨fun _ => false, fun h hh => by simp at hh⟩
  | g :: E, x, hE, hT => by
    have hE2 : ∀ h ∈ E, p h < n ∧ q h < n := fun g hg => hE g (.tail _ hg)
    have hlen := kr_len (p := p) (q := q) (E := E)
    have hne : ¬ krL p q E (p g) = krL p q E (q g) := fun e => by
      rw [krT, if_pos e, List.length_cons] at hT
      omega
    rw [krT, if_neg hne, List.length_cons, List.length_cons] at hT
    obtain ⟨b, hb⟩ := build x hE2 (by omega)
    by_cases e : xor (b (p g)) (b (q g)) = x g
    · exact ⟨b, fun h hh => (List.mem_cons.1 hh).elim (fun h => by rw [h]; exact e) (hb h)⟩
    · refine ⟨fun c => xor (b c) (krL p q E c == krL p q E (p g)), fun h hh => ?_⟩
      rcases List.mem_cons.1 hh with rfl | hh
      · have h2 : (krL p q E (q h) == krL p q E (p h)) = false := by simpa using fun h => hne h.symm
        simp only [beq_self_eq_true, h2]
        cases h3 : b (p h) <;> cases h4 : b (q h) <;> cases h5 : x h <;> simp_all
      · show xor (xor (b (p h)) _) (xor (b (q h)) _) = _
        rw [kr_join hE2 h hh, ← hb h hh]
        cases b (p h) <;> cases b (q h) <;> cases (krL p q E (q h) == krL p q E (p g)) <;> rfl
end Go.Proofs.YtleoalcbgpjieaaDoor

