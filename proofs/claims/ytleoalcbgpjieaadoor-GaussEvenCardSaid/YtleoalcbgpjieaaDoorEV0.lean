/- Euler's count, in all: plain. -/
import Derived.Test.YtleoalcbgpjieaaDoorV4
namespace Go.Proofs.YtleoalcbgpjieaaDoor
open Go.Ab
set_option linter.unusedVariables false

/-! ### Euler's count, in all -/
def sumTo (g : Nat → Nat) : Nat → Nat
  | 0 => 0
  | p + 1 => sumTo g p + g p
theorem sumTo_add (g k : Nat → Nat) : ∀ P, sumTo (fun p => g p + k p) P = sumTo g P + sumTo k P
  | 0 => rfl
  | P + 1 => by simp only [sumTo, sumTo_add g k P]; omega
theorem sumTo_one {q : Nat} : ∀ P, sumTo (fun p => if ((q : Int) == (p : Int)) = true then 1 else 0) P = if q < P then 1 else 0
  | 0 => rfl
  | P + 1 => by
    rw [sumTo, sumTo_one P]
    by_cases h : q = P
    · subst h; simp
    · have h2 : ¬ ((q : Int) == (P : Int)) = true := by simp; omega
      rw [if_neg h2]
      by_cases h3 : q < P
      · rw [if_pos h3, if_pos (by omega)]
      · rw [if_neg h3, if_neg (by omega)]
theorem sum_count {α : Type} {f : α → Int} {P : Nat} : ∀ {L : List α}, (∀ x ∈ L, ∃ q : Nat, f x = (q : Int) ∧ q < P) → sumTo (fun p => L.countP (fun x => f x == (p : Int))) P = L.length
  | [], _ => by
    have : ∀ P, sumTo (fun p => List.countP (fun x => f x == (p : Int)) []) P = 0 := fun P => by
      induction P with
      | zero => rfl
      | succ P ih => rw [sumTo, ih]; rfl
    exact this P
  | a :: L, h => by
    obtain ⟨q, h1, h2⟩ := h a (by simp)
    have e : (fun p : Nat => (a :: L).countP (fun x => f x == (p : Int))) = fun p : Nat => L.countP (fun x => f x == (p : Int)) + (if ((q : Int) == (p : Int)) = true then 1 else 0) := by
      funext p
      rw [List.countP_cons, h1]
    rw [e, sumTo_add, sum_count fun x hx => h x (by simp [hx]), sumTo_one, if_pos h2, List.length_cons]
theorem sum_two {g k : Nat → Nat} : ∀ {P : Nat}, (∀ p, p < P → ((g p : Nat) : Int) - (k p : Nat) = 2) → ((sumTo g P : Nat) : Int) - (sumTo k P : Nat) = 2 * (P : Int)
  | 0, _ => rfl
  | P + 1, h => by
    have h1 := sum_two (P := P) fun p hp => h p (by omega)
    have h2 := h P (by omega)
    simp only [sumTo]; omega
theorem euler {ms ps : List Int} {n P : Nat} (hm : Mates ms) (hv : Inv ms) (hf : Fits ms n) (hp : Parts ms n ps P) (hS : Sph ms n) : 2 * (P : Int) + n - (leasts ms ms.length).length = 0 := by
  have h4 := hf.n4
  have h1 := (parts_sph hm hv hf hp).2 hS
  have h2 := sum_two (g := fun p => (leasts ms ms.length).countP (labAt ps p)) (k := fun p => ps.countP (fun y => y == (p : Int))) (P := P) h1
  have h3 : sumTo (fun p => (leasts ms ms.length).countP (labAt ps p)) P = (leasts ms ms.length).length :=
    sum_count (f := fun h => ps.getD (h / 4) 0) fun x hx => by
      have hlt : x < ms.length := by
        unfold leasts at hx
        simpa using (List.mem_filter.1 hx).1
      exact hp.rng (x / 4) (by omega)
  have h5 : sumTo (fun p => ps.countP (fun y => y == (p : Int))) P = ps.length :=
    sum_count (f := fun y => y) fun x hx => by
      obtain ⟨i, hi⟩ := List.mem_iff_getElem?.1 hx
      have hil := (List.getElem?_eq_some_iff.1 hi).1
      obtain ⟨q, h6, h7⟩ := hp.rng i (by rw [← hp.len]; exact hil)
      refine ⟨q, ?_, h7⟩
      rw [← h6]; simp [List.getD, hi]
  rw [h3, h5, hp.len] at h2
  omega

end Go.Proofs.YtleoalcbgpjieaaDoor
