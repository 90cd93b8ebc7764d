/- Regions whose order is open: the conditions that are checked. -/
import Derived.Test.YtadelcikpkhclaaDoorAb12
namespace Go.Ab
set_option linter.unusedVariables false

abbrev XOp := AOp × Nat × Bool

/-- What must come before: a set of numbers, as the bits of one. -/
def predsOf : List (Nat × Nat) → Nat → Nat
  | [], _ => 0
  | (i, l) :: r, j => if i = j then l else predsOf r j

def edgesOf (os : Array Oper) (i : Nat) : List Nat := match os[i]? with
  | some o => (o.after.toList.filter fun e => Region.binds .any e).map (·.on)
  | none => []

def orAll (acc : List (Nat × Nat)) : List Nat → Nat
  | [] => 0
  | j :: r => (1 <<< j) ||| (predsOf acc j ||| orAll acc r)
def addPreds (os : Array Oper) (acc : List (Nat × Nat)) (i : Nat) : Nat := orAll acc (edgesOf os i)

def allPreds (os : Array Oper) : List Nat → List (Nat × Nat) → List (Nat × Nat)
  | [], acc => acc
  | i :: r, acc => allPreds os r ((i, addPreds os acc i) :: acc)

def guardT : Option (Nat × Bool) → List Nat
  | some (t, _) => [t]
  | none => []

def readsX (x : AOp) : List Nat := reads x.k ++ guardT x.guard

def notIn (d : Option Nat) (l : List Nat) : Bool := match d with
  | some t => !l.contains t
  | none => true

def apart (x y : AOp) : Bool := notIn x.dst (readsX y) && notIn y.dst (readsX x) && (match x.dst with | some t => decide (y.dst ≠ some t) | none => true)

def pairOK (acc : List (Nat × Nat)) (x y : XOp) : Bool :=
  decide (x.2.1 ≠ y.2.1) && ((predsOf acc y.2.1).testBit x.2.1 || (predsOf acc x.2.1).testBit y.2.1 ||
    (apart x.1 y.1 && (!x.2.2 || isPure y.1.k) && (!y.2.2 || isPure x.1.k)))

def okPairs (acc : List (Nat × Nat)) : List XOp → Bool
  | [] => true
  | x :: r => r.all (pairOK acc x) && okPairs acc r

def okTop (os : Array Oper) (seen : List Nat) : List XOp → Bool
  | [] => true
  | x :: r => (edgesOf os x.2.1).all (fun j => seen.contains j) && okTop os (x.2.1 :: seen) r

def okD (P : Program) (n : Nat) (os : Array Oper) (xs : List XOp) : Bool :=
  xs.all (fun x => match os[x.2.1]? with | some o => okAOp P n os x.1 o | none => false) &&
  (List.range os.size).all (fun i => xs.any fun x => decide (x.2.1 = i)) && decide (xs.length = os.size) &&
  okTop os [] xs && okPairs (allPreds os (xs.map (·.2.1)) []) xs

inductive Pre (os : Array Oper) : Nat → Nat → Prop
  | edge {i j} (h : i ∈ edgesOf os j) : Pre os i j
  | trans {i j k} : Pre os i k → Pre os k j → Pre os i j

theorem predsOf_sound {os : Array Oper} : ∀ {acc : List (Nat × Nat)}, (∀ p ∈ acc, ∀ i, p.2.testBit i = true → Pre os i p.1) → ∀ {i j : Nat}, (predsOf acc j).testBit i = true → Pre os i j
  | [], _, i, j, h => by simp [predsOf] at h
  | (k, l) :: r, hacc, i, j, h => by
    simp only [predsOf] at h
    split at h
    · rename_i e; subst e; exact hacc (k, l) (by simp) i h
    · exact predsOf_sound (fun p hp => hacc p (by simp [hp])) h

theorem orAll_sound {os : Array Oper} {acc : List (Nat × Nat)} (hacc : ∀ p ∈ acc, ∀ i, p.2.testBit i = true → Pre os i p.1) {k i : Nat} : ∀ {es : List Nat}, (∀ j ∈ es, j ∈ edgesOf os i) → (orAll acc es).testBit k = true → Pre os k i
  | [], _, h => by simp [orAll] at h
  | j :: r, he, h => by
    simp only [orAll, Nat.testBit_or, Bool.or_eq_true] at h
    rcases h with h | h | h
    · rw [Nat.one_shiftLeft, Nat.testBit_two_pow] at h
      simp only [decide_eq_true_eq] at h
      subst h
      exact .edge (he _ (by simp))
    · exact .trans (predsOf_sound hacc h) (.edge (he j (by simp)))
    · exact orAll_sound hacc (fun x hx => he x (by simp [hx])) h

theorem allPreds_sound {os : Array Oper} : ∀ {is : List Nat} {acc : List (Nat × Nat)}, (∀ p ∈ acc, ∀ i, p.2.testBit i = true → Pre os i p.1) → ∀ p ∈ allPreds os is acc, ∀ i, p.2.testBit i = true → Pre os i p.1
  | [], acc, h => h
  | i :: r, acc, h => by
    simp only [allPreds]
    refine allPreds_sound fun p hp k hk => ?_
    simp only [List.mem_cons] at hp
    rcases hp with rfl | hp
    · exact orAll_sound h (fun j hj => hj) hk
    · exact h p hp k hk

structure DS (P : Program) (n : Nat) (os : Array Oper) (xs : List XOp) : Prop where
  mat : ∀ (p : Nat) (x : XOp), xs[p]? = some x → ∃ o, os[x.2.1]? = some o ∧ okAOp P n os x.1 o = true
  sur : ∀ (i : Nat) (o : Oper), os[i]? = some o → ∃ (p : Nat) (x : XOp), xs[p]? = some x ∧ x.2.1 = i
  len : xs.length = os.size
  top : ∀ (p : Nat) (x : XOp) (j : Nat), xs[p]? = some x → j ∈ edgesOf os x.2.1 → ∃ (q : Nat) (y : XOp), q < p ∧ xs[q]? = some y ∧ y.2.1 = j
  pair : ∀ (p q : Nat) (x y : XOp), p < q → xs[p]? = some x → xs[q]? = some y → x.2.1 ≠ y.2.1 ∧
    (Pre os x.2.1 y.2.1 ∨ Pre os y.2.1 x.2.1 ∨ (apart x.1 y.1 = true ∧ (x.2.2 = true → isPure y.1.k = true) ∧ (y.2.2 = true → isPure x.1.k = true)))

theorem okTop_spec {os : Array Oper} : ∀ {xs : List XOp} {seen : List Nat}, okTop os seen xs = true → ∀ (p : Nat) (x : XOp) (j : Nat), xs[p]? = some x → j ∈ edgesOf os x.2.1 →
    j ∈ seen ∨ ∃ (q : Nat) (y : XOp), q < p ∧ xs[q]? = some y ∧ y.2.1 = j
  | [], _, _, p, x, j, hx, _ => by simp at hx
  | y :: r, seen, h, p, x, j, hx, hj => by
    simp only [okTop, Bool.and_eq_true, List.all_eq_true] at h
    cases p with
    | zero =>
      simp at hx; subst hx
      exact .inl (by simpa using h.1 j hj)
    | succ p =>
      simp at hx
      rcases okTop_spec h.2 p x j hx hj with h1 | ⟨q, z, h1, h2, h3⟩
      · simp only [List.mem_cons] at h1
        rcases h1 with rfl | h1
        · exact .inr ⟨0, y, by omega, rfl, rfl⟩
        · exact .inl h1
      · exact .inr ⟨q + 1, z, by omega, by simpa using h2, h3⟩

theorem okPairs_spec {os : Array Oper} {acc : List (Nat × Nat)} (hacc : ∀ p ∈ acc, ∀ i, p.2.testBit i = true → Pre os i p.1) : ∀ {xs : List XOp}, okPairs acc xs = true →
    ∀ (p q : Nat) (x y : XOp), p < q → xs[p]? = some x → xs[q]? = some y → x.2.1 ≠ y.2.1 ∧
    (Pre os x.2.1 y.2.1 ∨ Pre os y.2.1 x.2.1 ∨ (apart x.1 y.1 = true ∧ (x.2.2 = true → isPure y.1.k = true) ∧ (y.2.2 = true → isPure x.1.k = true)))
  | [], _, p, q, x, y, _, hx, _ => by simp at hx
  | z :: r, h, p, q, x, y, hpq, hx, hy => by
    simp only [okPairs, Bool.and_eq_true, List.all_eq_true] at h
    cases p with
    | zero =>
      simp at hx; subst hx
      cases q with
      | zero => omega
      | succ q =>
        simp at hy
        have hk := h.1 y (List.mem_of_getElem? hy)
        simp only [pairOK, Bool.and_eq_true, Bool.or_eq_true, decide_eq_true_eq, Bool.not_eq_true'] at hk
        refine ⟨hk.1, ?_⟩
        rcases hk.2 with (h1 | h1) | h1
        · exact .inl (predsOf_sound hacc h1)
        · exact .inr (.inl (predsOf_sound hacc h1))
        · refine .inr (.inr ⟨h1.1.1, fun hz => ?_, fun hz => ?_⟩)
          · rcases h1.1.2 with h2 | h2
            · rw [hz] at h2; simp at h2
            · exact h2
          · rcases h1.2 with h2 | h2
            · rw [hz] at h2; simp at h2
            · exact h2
    | succ p =>
      cases q with
      | zero => omega
      | succ q => exact okPairs_spec hacc h.2 p q x y (by omega) (by simpa using hx) (by simpa using hy)

theorem okD_spec {P : Program} {n : Nat} {os : Array Oper} {xs : List XOp} (h : okD P n os xs = true) : DS P n os xs := by
  simp only [okD, Bool.and_eq_true, List.all_eq_true, decide_eq_true_eq] at h
  obtain ⟨⟨⟨⟨h1, h2⟩, h3⟩, h4⟩, h5⟩ := h
  refine ⟨fun p x hx => ?_, fun i o ho => ?_, h3, fun p x j hx hj => ?_, okPairs_spec (allPreds_sound (by simp)) h5⟩
  · have := h1 x (List.mem_of_getElem? hx)
    split at this
    · exact ⟨_, by assumption, this⟩
    · simp at this
  · have := h2 i (List.mem_range.2 (Array.getElem?_eq_some_iff.1 ho).1)
    simp only [List.any_eq_true, decide_eq_true_eq] at this
    obtain ⟨x, hx, rfl⟩ := this
    obtain ⟨p, hp⟩ := List.getElem?_of_mem hx
    exact ⟨p, x, hp, rfl⟩
  · rcases okTop_spec h4 p x j hx hj with h6 | h6
    · simp at h6
    · exact h6

namespace DS
variable {P : Program} {n : Nat} {os : Array Oper} {xs : List XOp} (D : DS P n os xs)
include D

theorem uniq {p q : Nat} {x y : XOp} (hx : xs[p]? = some x) (hy : xs[q]? = some y) (h : x.2.1 = y.2.1) : p = q := by
  rcases Nat.lt_trichotomy p q with hpq | hpq | hpq
  · exact absurd h (D.pair p q x y hpq hx hy).1
  · exact hpq
  · exact absurd h.symm (D.pair q p y x hpq hy hx).1

theorem pre_at {i j : Nat} (h : Pre os i j) : ∀ {q : Nat} {y : XOp}, xs[q]? = some y → y.2.1 = j → ∃ (p : Nat) (x : XOp), p < q ∧ xs[p]? = some x ∧ x.2.1 = i := by
  induction h with
  | edge h => intro q y hy hj; subst hj; exact D.top q y _ hy h
  | trans _ _ ih1 ih2 =>
    intro q y hy hj
    obtain ⟨r, z, h1, h2, h3⟩ := ih2 hy hj
    obtain ⟨p, x, h4, h5, h6⟩ := ih1 h2 h3
    exact ⟨p, x, by omega, h5, h6⟩

theorem pre_lt {p q : Nat} {x y : XOp} (hx : xs[p]? = some x) (hy : xs[q]? = some y) (h : Pre os x.2.1 y.2.1) : p < q := by
  obtain ⟨r, z, h1, h2, h3⟩ := D.pre_at h hy rfl
  have := D.uniq h2 hx h3
  omega
end DS

/-- The states on the way. -/
theorem trace {cf : CF} : ∀ {xs : List XOp} {E : Env} {h : Heap} {E' : Env} {h' : Heap}, runOpsD cf (xs.map fun p => (p.1, p.2.2)) E h = some (E', h') →
    ∃ tr : Nat → Env × Heap, tr 0 = (E, h) ∧ tr xs.length = (E', h') ∧ ∀ (p : Nat) (x : XOp), xs[p]? = some x →
      runOp cf x.1 (tr p).1 (tr p).2 = some (tr (p + 1)) ∧ (x.2.2 = true ∨ (tr (p + 1)).2.take (tr p).2.length = (tr p).2)
  | [], E, h, E', h', hs => by
    simp [runOpsD] at hs
    exact ⟨fun _ => (E, h), rfl, by simp [hs], by simp⟩
  | x :: xs, E, h, E', h', hs => by
    simp only [List.map_cons, runOpsD] at hs
    split at hs
    · rename_i E1 h1 hx
      split at hs
      · rename_i hc
        obtain ⟨tr, t1, t2, t3⟩ := trace hs
        refine ⟨fun p => match p with | 0 => (E, h) | p + 1 => tr p, rfl, by simpa using t2, fun p y hy => ?_⟩
        cases p with
        | zero =>
          simp at hy; subst hy
          simp only [t1]
          refine ⟨hx, ?_⟩
          simpa using hc
        | succ p => exact t3 p y (by simpa using hy)
      · simp at hs
    · simp at hs

end Go.Ab
