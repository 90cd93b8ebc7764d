/- Regions whose order is open: what an operation looks at. -/
import Derived.Test.YtadelcikpkhclaaDoorAb11
namespace Go.Ab
set_option linter.unusedVariables false

def aoT : AO → List Nat
  | .t n => [n]
  | .k _ => []
def aosT (l : List AO) : List Nat := l.flatMap aoT
def oaoT : Option AO → List Nat
  | some x => aoT x
  | none => []

def reads : AK → List Nat
  | .mv x => aoT x
  | .pick c a b => aoT c ++ aoT a ++ aoT b
  | .bin _ x y => aoT x ++ aoT y
  | .beq _ x y => aoT x ++ aoT y
  | .isnil _ _ x => aoT x
  | .un _ x => aoT x
  | .conv _ x => aoT x
  | .len _ x => aoT x
  | .mm _ x ys => aoT x ++ aosT ys
  | .idxA _ x i => aoT x ++ aoT i
  | .idxP _ _ x i => aoT x ++ aoT i
  | .idxS x i => aoT x ++ aoT i
  | .idxG _ _ _ x i => aoT x ++ aoT i
  | .fldA _ x => aoT x
  | .fld _ _ _ x => aoT x
  | .ld _ _ x => aoT x
  | .st _ a x => aoT a ++ aoT x
  | .new _ => []
  | .box x => aoT x
  | .bld _ ps => aosT (ps.map (·.2.2))
  | .bsl _ _ _ ps => aosT (ps.map (·.2))
  | .mk _ _ _ l c => aoT l ++ aoT c
  | .sl _ x lo hi => aoT x ++ oaoT lo ++ oaoT hi
  | .slS x lo hi => aoT x ++ oaoT lo ++ oaoT hi
  | .app _ _ _ x y => aoT x ++ aoT y
  | .call _ args => aosT args
  | .callv x args => aoT x ++ aosT args
  | .ext x _ => aoT x
  | .mkf _ caps => aosT caps
  | .nilc x => aoT x
  | .newT _ _ => []
  | .aeq _ _ x y => aoT x ++ aoT y
  | .peq _ x y => aoT x ++ aoT y
  | .sl1 x lo hi => aoT x ++ oaoT lo ++ oaoT hi
  | .usd x => aoT x
  | .ustr _ x n => aoT x ++ aoT n
  | .bad => []

def isPure : AK → Bool
  | .mv _ | .pick .. | .bin .. | .beq .. | .isnil .. | .un .. | .conv .. | .len .. | .mm .. | .idxA .. | .idxP .. | .idxS .. | .idxG .. | .fldA .. | .fld .. | .bld .. | .slS .. | .ext .. | .mkf .. | .nilc .. | .aeq .. | .peq .. | .usd .. | .sl1 .. => true
  | _ => false

section congr
variable {E E' : Env}

theorem ev_congr {x : AO} (h : ∀ t ∈ aoT x, E.get t = E'.get t) : ev E x = ev E' x := by
  cases x with
  | t n => exact h n (by simp [aoT])
  | k v => rfl

theorem evS_congr {x : AO} (h : ∀ t ∈ aoT x, E.get t = E'.get t) : evS E x = evS E' x := by
  unfold evS; rw [ev_congr h]

theorem evs_congr : ∀ {xs : List AO}, (∀ t ∈ aosT xs, E.get t = E'.get t) → evs E xs = evs E' xs
  | [], _ => rfl
  | x :: xs, h => by
    simp only [evs]
    rw [ev_congr fun t ht => h t (by simp [aosT, ht]), evs_congr fun t ht => h t (by simp only [aosT, List.flatMap_cons, List.mem_append] at ht ⊢; exact .inr ht)]

theorem evSs_congr : ∀ {xs : List AO}, (∀ t ∈ aosT xs, E.get t = E'.get t) → evSs E xs = evSs E' xs
  | [], _ => rfl
  | x :: xs, h => by
    simp only [evSs]
    rw [evS_congr fun t ht => h t (by simp [aosT, ht]), evSs_congr fun t ht => h t (by simp only [aosT, List.flatMap_cons, List.mem_append] at ht ⊢; exact .inr ht)]

theorem evParts_congr : ∀ {ps : List (Nat × Nat × AO)}, (∀ t ∈ aosT (ps.map (·.2.2)), E.get t = E'.get t) → evParts E ps = evParts E' ps
  | [], _ => rfl
  | (o, s, x) :: ps, h => by
    simp only [evParts]
    rw [ev_congr fun t ht => h t (by simp [aosT, ht]), evParts_congr fun t ht => h t (by simp only [aosT, List.map_cons, List.flatMap_cons, List.mem_append] at ht ⊢; exact .inr ht)]

theorem bnd_congr {d : Nat} {x : Option AO} (h : ∀ t ∈ oaoT x, E.get t = E'.get t) : bnd E d x = bnd E' d x := by
  cases x with
  | none => rfl
  | some x => simp only [bnd]; rw [evS_congr h]

theorem step1_congr {h : Heap} {k : AK} (hr : ∀ t ∈ reads k, E.get t = E'.get t) : step1 E h k = step1 E' h k := by
  have l1 : ∀ {a b : List Nat}, (∀ t ∈ a ++ b, E.get t = E'.get t) → ∀ t ∈ a, E.get t = E'.get t := fun h t ht => h t (by simp [ht])
  have l2 : ∀ {a b : List Nat}, (∀ t ∈ a ++ b, E.get t = E'.get t) → ∀ t ∈ b, E.get t = E'.get t := fun h t ht => h t (by simp [ht])
  cases k <;> simp only [reads] at hr <;> simp only [step1]
  case mv x => rw [ev_congr hr]
  case pick c a b => rw [evS_congr (l1 (l1 hr)), ev_congr (l2 (l1 hr)), ev_congr (l2 hr)]
  case bin op x y => rw [evS_congr (l1 hr), evS_congr (l2 hr)]
  case beq op x y => rw [evS_congr (l1 hr), evS_congr (l2 hr)]
  case isnil kd neg x => rw [evS_congr hr]
  case un op x => rw [evS_congr hr]
  case conv k x => rw [evS_congr hr]
  case len str x => rw [evS_congr hr]
  case mm mx x ys => rw [evS_congr (l1 hr), evSs_congr (l2 hr)]
  case idxA esz x i => rw [evS_congr (l1 hr), evS_congr (l2 hr)]
  case idxP n esz x i => rw [evS_congr (l1 hr), evS_congr (l2 hr)]
  case idxS x i => rw [evS_congr (l1 hr), evS_congr (l2 hr)]
  case idxG n esz agg x i => rw [ev_congr (l1 hr), evS_congr (l2 hr)]
  case fldA off x => rw [evS_congr hr]
  case fld off size agg x => rw [ev_congr hr]
  case ld n agg x => rw [evS_congr hr]
  case st n a x => rw [evS_congr (l1 hr), ev_congr (l2 hr)]
  case box x => rw [ev_congr hr]
  case bld zero ps => rw [evParts_congr hr]
  case bsl esz zero len ps =>
    rw [evParts_congr (E := E) (E' := E') (ps := ps.map fun p => (p.1 * esz.n, esz.n, p.2)) (fun t ht => hr t (by simpa [List.map_map, Function.comp_def] using ht))]
  case mk esz bytes zero l c => rw [evS_congr (l1 hr), evS_congr (l2 hr)]
  case sl esz x lo hi => rw [evS_congr (l1 (l1 hr)), bnd_congr (l2 (l1 hr))]; simp only [bnd_congr (l2 hr)]
  case slS x lo hi => rw [evS_congr (l1 (l1 hr)), bnd_congr (l2 (l1 hr))]; simp only [bnd_congr (l2 hr)]
  case app esz bytes zero x y => rw [evS_congr (l1 hr), evS_congr (l2 hr)]
  case ext x i => rw [ev_congr hr]
  case mkf f caps => rw [evSs_congr hr]
  case nilc x => rw [evS_congr hr]
  case aeq neg n x y => rw [ev_congr (l1 hr), ev_congr (l2 hr)]
  case peq neg x y => rw [evS_congr (l1 hr), evS_congr (l2 hr)]
  case usd x => rw [evS_congr hr]
  case sl1 x lo hi => rw [evS_congr (l1 (l1 hr)), bnd_congr (l2 (l1 hr))]; simp only [bnd_congr (l2 hr)]
  case ustr t x n => rw [evS_congr (l1 hr), evS_congr (l2 hr)]

theorem opRun_congr {cf : CF} {h : Heap} {k : AK} (hr : ∀ t ∈ reads k, E.get t = E'.get t) : opRun cf E h k = opRun cf E' h k := by
  unfold opRun
  split
  · rw [evs_congr hr]
  · simp only [reads] at hr
    rw [evS_congr fun t ht => hr t (by simp [ht]), evs_congr fun t ht => hr t (by simp [ht])]
  · exact step1_congr hr

theorem wants_congr {g : Option (Nat × Bool)} (h : ∀ t b, g = some (t, b) → E.get t = E'.get t) : wants E g = wants E' g := by
  cases g with
  | none => rfl
  | some p => simp only [wants]; rw [h p.1 p.2 rfl]
end congr

theorem pure_run {cf : CF} {E : Env} {k : AK} (hp : isPure k = true) {h : Heap} {v : Option AV} {h' : Heap} (hs : opRun cf E h k = some (v, h')) : h' = h ∧ ∀ h2, opRun cf E h2 k = some (v, h2) := by
  have key : ∀ h1 h2 : Heap, opRun cf E h1 k = (opRun cf E h2 k).map fun r => (r.1, h1) := by
    intro h1 h2
    cases k <;> simp [isPure] at hp <;> simp only [opRun, step1]
    all_goals first
      | (simp [Option.map_bind, Function.comp_def]; done)
      | (split <;> simp [Option.map_bind, Function.comp_def]; done)
      | skip
    case pick => split <;> (try split) <;> simp [Function.comp_def]
    case idxS => split <;> (try split) <;> simp [Function.comp_def]
    case aeq => split <;> (try split) <;> simp [Function.comp_def]
    case idxG => split <;> (try split) <;> simp [Option.map_bind, Function.comp_def]
  have h1 := key h h
  rw [hs] at h1
  simp at h1
  refine ⟨h1, fun h2 => ?_⟩
  rw [key h2 h, hs]
  simp

theorem Env.get_keep_mem (E : Env) (t : Nat) : ∀ ks : List Nat, t ∈ ks → Env.get (E.keep ks) t = E.get t
  | [], h => by simp at h
  | k :: ks, h => by
    simp only [Env.keep, List.map_cons, Env.get]
    by_cases e : k = t
    · subst e; simp
    · rw [if_neg e]
      exact Env.get_keep_mem E t ks (by simp at h; rcases h with h | h; exact absurd h.symm e; exact h)

theorem bindE_get (d : Option Nat) (v : Option AV) (E : Env) (t : Nat) : (bindE d v E).get t = if d = some t then v else E.get t := by
  cases d with
  | none => simp [bindE]
  | some s => simp [bindE, Env.get]

end Go.Ab
