/- The edges of a diagram, each by its outgoing half: plain. -/
import Derived.Test.YtleoalcbgpjieaaDoorEV2
import Derived.Test.YtleoalcbgpjieaaDoorM1
namespace Go.Proofs.YtleoalcbgpjieaaDoor
open Go.Ab
set_option linter.unusedVariables false
variable {xs ms : List Int} {l : Int}

/-- The outgoing halves below 4 n. -/
def outs (xs : List Int) (n : Nat) : List Nat := (List.range (4 * n)).filter (outB xs)
theorem range4 (n : Nat) : List.range (4 * (n + 1)) = List.range (4 * n) ++ [4 * n, 4 * n + 1, 4 * n + 2, 4 * n + 3] := by
  rw [show 4 * (n + 1) = 4 * n + 4 by omega, List.range_add]
  rfl
theorem outs_len (hs : ∀ x ∈ xs, Sgn x) : ∀ {n}, n ≤ xs.length → (outs xs n).length = 2 * n
  | 0, _ => rfl
  | n + 1, hn => by
    have ih := outs_len hs (n := n) (by omega)
    unfold outs at ih ⊢
    rw [range4, List.filter_append, List.length_append, ih]
    have hx : xs[n]? = some (xs.getD n 0) := by simp [List.getD, show n < xs.length by omega]
    have hsg := hs _ (List.mem_of_getElem? hx)
    have e : ∀ d, d < 4 → outB xs (4 * n + d) = outB [xs.getD n 0] d := fun d hd => by
      unfold outB
      rw [show (4 * n + d) / 4 = n by omega, show (4 * n + d) % 4 = d by omega, show d / 4 = 0 by omega, show d % 4 = d by omega]
      rfl
    have e0 := e 0 (by omega)
    rw [Nat.add_zero] at e0
    simp only [List.filter_cons, List.filter_nil, e0, e 1 (by omega), e 2 (by omega), e 3 (by omega)]
    rcases hsg with h | h <;> rw [h] <;> rfl
theorem outs_mem (hF : Front xs ms l) {h : Nat} : h ∈ outs xs xs.length ↔ h < ms.length ∧ outB xs h = true := by
  unfold outs
  rw [List.mem_filter, List.mem_range, hF.four]
theorem smB_perm {f : Nat → Bool} {A B : List Nat} (h : A.Perm B) : smB f A = smB f B := by
  induction h with
  | nil => rfl
  | cons x _ ih => rw [smB, smB, ih]
  | swap x y l => rw [smB, smB, smB, smB]; cases f x <;> cases f y <;> cases smB f l <;> rfl
  | trans _ _ i1 i2 => rw [i1, i2]
theorem smB_app {f : Nat → Bool} : ∀ {A B : List Nat}, smB f (A ++ B) = xor (smB f A) (smB f B)
  | [], B => by simp [smB]
  | a :: A, B => by
    show xor (f a) (smB f (A ++ B)) = _
    rw [smB_app, smB]; cases f a <;> cases smB f A <;> cases smB f B <;> rfl
theorem smB_map {f : Nat → Bool} {g : Nat → Nat} : ∀ {A : List Nat}, smB f (A.map g) = smB (fun h => f (g h)) A
  | [] => rfl
  | a :: A => by rw [List.map_cons, smB, smB, smB_map]
theorem smB_xor {f g : Nat → Bool} : ∀ {A : List Nat}, smB (fun h => xor (f h) (g h)) A = xor (smB f A) (smB g A)
  | [] => rfl
  | a :: A => by
    rw [smB, smB, smB, smB_xor]
    cases f a <;> cases g a <;> cases smB f A <;> cases smB g A <;> rfl
/-- All halves: the outgoing ones and their mates. -/
theorem all_perm (hF : Front xs ms l) : (List.range ms.length).Perm (outs xs xs.length ++ (outs xs xs.length).map (mateN ms)) := by
  have hm : ∀ h, h < ms.length → mateN ms h < ms.length ∧ mateN ms (mateN ms h) = h ∧ outB xs h ≠ outB xs (mateN ms h) := fun h hh => by
    obtain ⟨_, b, c, _, e⟩ := hF.mateg hh
    exact ⟨b, c, e⟩
  have no : (outs xs xs.length).Nodup := List.Pairwise.filter _ List.nodup_range
  rw [List.perm_ext_iff_of_nodup List.nodup_range ?_]
  · intro h
    rw [List.mem_append, outs_mem hF, List.mem_range, List.mem_map]
    constructor
    · intro hh
      cases ho : outB xs h with
      | true => exact .inl ⟨hh, rfl⟩
      | false =>
        obtain ⟨b, c, e⟩ := hm h hh
        refine .inr ⟨mateN ms h, (outs_mem hF).2 ⟨b, ?_⟩, c⟩
        rw [ho] at e
        cases h2 : outB xs (mateN ms h) with
        | true => rfl
        | false => exact absurd h2.symm e
    · rintro (⟨a, _⟩ | ⟨g, hg, rfl⟩)
      · exact a
      · exact (hm g ((outs_mem hF).1 hg).1).1
  · rw [List.nodup_append]
    refine ⟨no, ?_, fun a ha b hb e => ?_⟩
    · unfold List.Nodup
      rw [List.pairwise_map]
      refine List.Pairwise.imp_of_mem ?_ no
      intro a b ha hb hab he
      have h1 := (hm a ((outs_mem hF).1 ha).1).2.1
      have h2 := (hm b ((outs_mem hF).1 hb).1).2.1
      rw [he, h2] at h1
      exact hab h1.symm
    · obtain ⟨g, hg, rfl⟩ := List.mem_map.1 hb
      have h1 := (outs_mem hF).1 ha
      have h2 := (outs_mem hF).1 hg
      have h3 := (hm g h2.1).2.2
      rw [← e, h1.2, h2.2] at h3
      exact h3 rfl
/-- A sum over all halves is one over the edges. -/
theorem smB_edges (hF : Front xs ms l) (f : Nat → Bool) : smB f (List.range ms.length) = smB (fun h => xor (f h) (f (mateN ms h))) (outs xs xs.length) := by
  rw [smB_perm (all_perm hF), smB_app, smB_map, smB_xor]
end Go.Proofs.YtleoalcbgpjieaaDoor
