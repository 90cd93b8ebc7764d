/- Planar codes, plainly: the mates, while the map is run through. -/
import Derived.Test.YtehnalbdfnmphaaDoorPP2
namespace Go.Proofs.YtehnalbdfnmphaaDoor
open Go.Ab
set_option linter.unusedVariables false

theorem dirE_mem {S Lb : List Int} {b : Bool} {N i : Nat} {p : Int × Int} (h : (dirE S Lb b N)[i]? = some p) : ∃ g : Nat, g < N ∧ outB S g = b ∧ p = (Lb.getD g 0, (g : Int)) := by
  have := List.mem_of_getElem? h
  obtain ⟨g, h5, rfl⟩ := List.mem_map.1 this
  simp only [List.mem_filter, List.mem_range, beq_iff_eq] at h5
  exact ⟨g, h5.1, h5.2, rfl⟩
theorem dirE_at {S Lb : List Int} {b : Bool} {N g : Nat} (h1 : g < N) (h2 : outB S g = b) : ∃ i : Nat, (dirE S Lb b N)[i]? = some (Lb.getD g 0, (g : Int)) := by
  have : (Lb.getD g 0, (g : Int)) ∈ dirE S Lb b N := List.mem_map.2 ⟨g, by simp [h1, h2], rfl⟩
  exact List.mem_iff_getElem?.1 this
def Gd (S Lb : List Int) (N : Nat) (M : List Int) (seen : List Nat) : Prop := M.length = N ∧ seen.Nodup ∧ (∀ i ∈ seen, i < (dirE S Lb true N).length) ∧
  ∀ i ∈ seen, ∃ h g : Nat, (dirE S Lb true N)[i]? = some (Lb.getD h 0, (h : Int)) ∧ h < N ∧ outB S h = true ∧ Mt S Lb N h g ∧ M[h]? = (mtL S Lb N)[h]? ∧ M[g]? = (mtL S Lb N)[g]?
theorem Gd.zero (S Lb : List Int) (N : Nat) : Gd S Lb N (List.replicate N 0) [] := ⟨by simp, List.nodup_nil, fun i hi => by simp at hi, fun i hi => by simp at hi⟩
theorem Gd.lt {S Lb : List Int} {N : Nat} {M : List Int} {seen : List Nat} (hG : Gd S Lb N M seen) {i : Nat} (hi : i < (dirE S Lb true N).length) (hns : i ∉ seen) : seen.length < (dirE S Lb true N).length := by
  obtain ⟨g1, g2, g3, g4⟩ := hG
  have := fit_len (ys := i :: seen) (T := List.range (dirE S Lb true N).length) (List.nodup_cons.2 ⟨hns, g2⟩) (fun y hy => by
    rcases List.mem_cons.1 hy with rfl | hy
    · simpa using hi
    · simpa using g3 y hy)
  simp at this
  omega
theorem Gd.step {S Lb : List Int} {N : Nat} {M : List Int} {seen : List Nat} (hN : ND S Lb N) (hG : Gd S Lb N M seen) {i : Nat} {p : Int × Int} (hp : (dirE S Lb true N)[i]? = some p) (hns : i ∉ seen) {v : Int} (hv : getI (dirE S Lb false N) p.1 = some v) :
    ∃ h g : Nat, p.2 = h ∧ v = g ∧ h < N ∧ g < N ∧ Gd S Lb N ((M.set h g).set g h) (seen ++ [i]) := by
  obtain ⟨g1, g2, g3, g4⟩ := hG
  obtain ⟨h, h1, h2, rfl⟩ := dirE_mem hp
  obtain ⟨g, k1, rfl, k2, k3⟩ := getI_some hv
  have m1 : Mt S Lb N h g := MA.mt hN h1 k1 (by rw [k2, h2]; decide) k3
  have m2 : Mt S Lb N g h := MA.mt hN k1 h1 (by rw [k2, h2]; decide) k3.symm
  have e1 := mtL_get h1 m1
  have e2 := mtL_get k1 m2
  have keep : ∀ x, M[x]? = (mtL S Lb N)[x]? → ((M.set h (g : Int)).set g (h : Int))[x]? = (mtL S Lb N)[x]? := fun x hx => by
    rw [List.getElem?_set]
    split
    · rename_i e; subst e
      rw [if_pos (by simp; omega), e2]
    · rw [List.getElem?_set]
      split
      · rename_i e; subst e
        rw [if_pos (by omega), e1]
      · exact hx
  have at1 : ((M.set h (g : Int)).set g (h : Int))[h]? = (mtL S Lb N)[h]? := by
    rw [List.getElem?_set_ne m1.2.1, List.getElem?_set_self (by omega), e1]
  have at2 : ((M.set h (g : Int)).set g (h : Int))[g]? = (mtL S Lb N)[g]? := by
    rw [List.getElem?_set_self (by simp; omega), e2]
  refine ⟨h, g, rfl, rfl, h1, k1, by simp [g1], ?_, fun j hj => ?_, fun j hj => ?_⟩
  · rw [List.nodup_append]
    refine ⟨g2, by simp, fun a ha b hb => ?_⟩
    rw [List.mem_singleton] at hb
    subst hb
    exact fun e => hns (e ▸ ha)
  · rcases List.mem_append.1 hj with hj | hj
    · exact g3 j hj
    · rw [List.mem_singleton] at hj; subst hj
      exact (List.getElem?_eq_some_iff.1 hp).1
  · rcases List.mem_append.1 hj with hj | hj
    · obtain ⟨h', g', q1, q2, q3, q4, q5, q6⟩ := g4 j hj
      exact ⟨h', g', q1, q2, q3, q4, keep _ q5, keep _ q6⟩
    · rw [List.mem_singleton] at hj; subst hj
      exact ⟨h, g, hp, h1, h2, m1, at1, at2⟩
theorem Gd.bad {S Lb : List Int} {N : Nat} {i : Nat} {p : Int × Int} (hp : (dirE S Lb true N)[i]? = some p) (hv : getI (dirE S Lb false N) p.1 = none) : ¬ MA S Lb N := fun hM => by
  obtain ⟨h, h1, h2, rfl⟩ := dirE_mem hp
  obtain ⟨g, k1, k2, k3⟩ := hM.2 h h1 h2
  exact getI_none.1 hv g k1 k2 k3
theorem Gd.all {S Lb : List Int} (hs : ∀ x ∈ S, Sgn x) {M : List Int} {seen : List Nat} (hN : ND S Lb (4 * S.length)) (hG : Gd S Lb (4 * S.length) M seen) (hall : ∀ i, i < (dirE S Lb true (4 * S.length)).length → i ∈ seen) : MA S Lb (4 * S.length) ∧ M = mtL S Lb (4 * S.length) := by
  obtain ⟨g1, g2, g3, g4⟩ := hG
  have hO : ∀ h, h < 4 * S.length → outB S h = true → ∃ g : Nat, Mt S Lb (4 * S.length) h g ∧ M[h]? = (mtL S Lb (4 * S.length))[h]? ∧ M[g]? = (mtL S Lb (4 * S.length))[g]? := fun h h1 h2 => by
    obtain ⟨i, hi⟩ := dirE_at (Lb := Lb) h1 h2
    obtain ⟨h', g, q1, q2, q3, q4, q5, q6⟩ := g4 i (hall i (List.getElem?_eq_some_iff.1 hi).1)
    rw [hi] at q1
    simp only [Option.some.injEq, Prod.mk.injEq] at q1
    have : h = h' := by omega
    subst this
    exact ⟨g, q4, q5, q6⟩
  have hMA : MA S Lb (4 * S.length) := ⟨hN, fun h h1 h2 => by
    obtain ⟨g, q, -, -⟩ := hO h h1 h2
    refine ⟨g, q.1, ?_, q.2.2.1⟩
    have := q.2.2.2.1
    rw [h2] at this
    simpa using this⟩
  refine ⟨hMA, ?_⟩
  refine List.ext_getElem? fun x => ?_
  rcases Nat.lt_or_ge x (4 * S.length) with hx | hx
  · cases ho : outB S x with
    | true => obtain ⟨g, -, q, -⟩ := hO x hx ho; exact q
    | false =>
      obtain ⟨h, m1, m2, m3, m4, m5⟩ := hMA.mr hs x hx
      have hoh : outB S h = true := by rw [ho] at m4; simpa using m4
      obtain ⟨g, q, -, q6⟩ := hO h m1 hoh
      have : x = g := q.2.2.2.2 x hx (fun e => m2 e.symm) m3.symm
      rw [this]; exact q6
  · rw [List.getElem?_eq_none (by omega), List.getElem?_eq_none (by rw [mtL_len]; omega)]
end Go.Proofs.YtehnalbdfnmphaaDoor
