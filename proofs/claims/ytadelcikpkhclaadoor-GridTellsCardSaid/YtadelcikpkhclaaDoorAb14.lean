/- Regions whose order is open: whatever order the tape picks, the outcome is that of the one order reckoned here. -/
import Derived.Test.YtadelcikpkhclaaDoorAb13
namespace Go.Ab
set_option linter.unusedVariables false

def lit (listed : Array Bool) (i : Nat) : Prop := listed.getD i false = true
def exP (xs : List XOp) (listed : Array Bool) (p : Nat) : Prop := ∃ x, xs[p]? = some x ∧ lit listed x.2.1
def loud (tr : Nat → Env × Heap) (p : Nat) : Prop := ¬ (tr (p + 1)).2.take (tr p).2.length = (tr p).2

theorem lit_set {listed : Array Bool} {i j : Nat} (hi : i < listed.size) : lit (listed.setIfInBounds i true) j ↔ j = i ∨ lit listed j := by
  unfold lit
  by_cases e : i = j
  · subst e; simp [hi]
  · rw [getD_set_ne false e]
    constructor
    · exact .inr
    · rintro (h | h)
      · exact absurd h.symm e
      · exact h

structure TR (cf : CF) (xs : List XOp) (tr : Nat → Env × Heap) : Prop where
  step : ∀ (p : Nat) (x : XOp), xs[p]? = some x → runOp cf x.1 (tr p).1 (tr p).2 = some (tr (p + 1)) ∧ (x.2.2 = true ∨ ¬ loud tr p)

theorem runOp_env {cf : CF} {x : AOp} {E E' : Env} {h h' : Heap} (hs : runOp cf x E h = some (E', h')) : ∃ v, E' = bindE x.dst v E := by
  unfold runOp at hs
  split at hs
  · simp only [Option.map_eq_some_iff, Prod.mk.injEq] at hs
    obtain ⟨r, _, rfl, _⟩ := hs
    exact ⟨_, rfl⟩
  · simp at hs; exact ⟨none, hs.1.symm⟩
  · simp at hs

theorem take_get {h h1 : Heap} (hp : h.take h1.length = h1) {i : Nat} (hi : i < h1.length) : h[i]? = h1[i]? := by
  have := congrArg (fun l : Heap => l[i]?) hp
  simp only [List.getElem?_take, if_pos hi] at this
  exact this

theorem rep_prefix {β : Bt} {h h1 : Heap} {w : World} (hp : h.take h1.length = h1) (R : Rep β h w) : Rep β h1 w := by
  have key : ∀ (i : Nat) (b : Blk), h1[i]? = some b → h[i]? = some b := fun i b hb => by
    rw [take_get hp (List.getElem?_eq_some_iff.1 hb).1]; exact hb
  exact ⟨fun id b L hg hL => R.sz id b L (key _ _ hg) hL, fun id L cs rw esz hg hL => R.blk id L cs rw esz (key _ _ hg) hL, fun i j L M cs esz cs' rw' esz' hi hj => R.exc i j L M cs esz cs' rw' esz' (key _ _ hi) (key _ _ hj)⟩

theorem owned_prefix {β : Bt} {h h1 : Heap} (hp : h.take h1.length = h1) {b : Nat} (ho : owned β h1 b) : owned β h b := by
  obtain ⟨id, L, cs, esz, hg, hL, rfl⟩ := ho
  exact ⟨id, L, cs, esz, by rw [take_get hp (List.getElem?_eq_some_iff.1 hg).1]; exact hg, hL, rfl⟩

section
variable {P : Program} {n : Nat} {os : Array Oper} {xs : List XOp} {cf : CF} {tr : Nat → Env × Heap}

theorem tr_len (CO : CallOK P cf) (T : TR cf xs tr) {p : Nat} (hp : p < xs.length) : (tr p).2.length ≤ (tr (p + 1)).2.length := by
  obtain ⟨x, hx⟩ : ∃ x, xs[p]? = some x := ⟨xs[p], List.getElem?_eq_getElem hp⟩
  exact runOp_len CO (T.step p x hx).1

theorem tr_mono (CO : CallOK P cf) (T : TR cf xs tr) {p q : Nat} (hpq : p ≤ q) (hq : q ≤ xs.length) : (tr p).2.length ≤ (tr q).2.length := by
  induction q with
  | zero => have : p = 0 := by omega
            subst this; exact Nat.le_refl _
  | succ q ih =>
    by_cases e : p = q + 1
    · subst e; exact Nat.le_refl _
    · exact Nat.le_trans (ih (by omega) (by omega)) (tr_len CO T (by omega))

theorem tr_prefix (CO : CallOK P cf) (T : TR cf xs tr) {p q : Nat} (hpq : p ≤ q) (hq : q ≤ xs.length) (hno : ∀ r, p ≤ r → r < q → ¬ loud tr r) : (tr q).2.take (tr p).2.length = (tr p).2 := by
  induction q with
  | zero => have : p = 0 := by omega
            subst this; simp
  | succ q ih =>
    by_cases e : p = q + 1
    · subst e; simp
    · have h1 := ih (by omega) (by omega) (fun r h1 h2 => hno r h1 (by omega))
      have h2 : (tr (q + 1)).2.take (tr q).2.length = (tr q).2 := Classical.not_not.1 (hno q (by omega) (by omega))
      have h3 := tr_mono CO T (show p ≤ q by omega) (by omega)
      have h4 := congrArg (List.take (tr p).2.length) h2
      rw [List.take_take, Nat.min_eq_left h3, h1] at h4
      exact h4

theorem next_loud (tr : Nat → Env × Heap) (m : Nat) : ∀ (d k : Nat), m - k = d → k ≤ m → ∃ q, k ≤ q ∧ q ≤ m ∧ (∀ r, k ≤ r → r < q → ¬ loud tr r) ∧ (q = m ∨ loud tr q)
  | 0, k, hd, hk => ⟨m, hk, Nat.le_refl _, fun r h1 h2 => by omega, .inl rfl⟩
  | d + 1, k, hd, hk => by
    by_cases hl : loud tr k
    · exact ⟨k, Nat.le_refl _, hk, fun r h1 h2 => by omega, .inr hl⟩
    · obtain ⟨q, h1, h2, h3, h4⟩ := next_loud tr m d (k + 1) (by omega) (by omega)
      refine ⟨q, by omega, h2, fun r h5 h6 => ?_, h4⟩
      by_cases e : r = k
      · subst e; exact hl
      · exact h3 r (by omega) h6

structure Inv (os : Array Oper) (xs : List XOp) (tr : Nat → Env × Heap) (n : Nat) (β0 : Bt) (h0 : Heap) (w0 : World) (ds : List Deferred) (listed : Array Bool) (a : Act) (w : World) (β : Bt) (q : Nat) : Prop where
  lsz : listed.size = os.size
  cl : ∀ i j, i ∈ edgesOf os j → lit listed j → lit listed i
  n : a.tmps.size = n
  ds : a.defers = ds
  qm : q ≤ xs.length
  qa : ∀ p, p < q → loud tr p → exP xs listed p
  qb : q = xs.length ∨ (loud tr q ∧ ¬ exP xs listed q)
  rep : Rep β (tr q).2 w
  dom : ∀ id L, β id = some L → β0 id = some L ∨ ∃ p, exP xs listed p ∧ (tr p).2.length ≤ id ∧ id < (tr (p + 1)).2.length
  full : ∀ p, exP xs listed p → ∀ id, (tr p).2.length ≤ id → id < (tr (p + 1)).2.length → ∃ L, β id = some L
  ext : β0.le β
  own : ∀ b, owned β (tr q).2 b → w0.heap.size ≤ b ∨ owned β0 h0 b
  new : ∀ id L, β id = some L → β0 id = none → w0.heap.size ≤ L.b ∨ owned β0 h0 L.b
  frame : ∀ b, b < w0.heap.size → ¬ owned β0 h0 b → w.heap[b]? = w0.heap[b]?
  size : w0.heap.size ≤ w.heap.size
  os : w.os = w0.os
  tape : w.tape = w0.tape
  output : w.output = w0.output
  env : ∀ p', p' ≤ xs.length → ∀ t, (∀ (r : Nat) (y : XOp), r < p' → xs[r]? = some y → y.1.dst = some t → lit listed y.2.1) →
    (∀ (r : Nat) (y : XOp), p' ≤ r → xs[r]? = some y → y.1.dst = some t → ¬ lit listed y.2.1) →
    ∀ v, (tr p').1.get t = some v → ∃ c, a.tmps[t]? = some c ∧ ARel β v c

variable {β0 β : Bt} {h0 : Heap} {w0 w : World} {ds : List Deferred} {listed : Array Bool} {a : Act} {q : Nat}

theorem Inv.closed (I : Inv os xs tr n β0 h0 w0 ds listed a w β q) {i j : Nat} (h : Pre os i j) : lit listed j → lit listed i := by
  induction h with
  | edge h => exact I.cl _ _ h
  | trans _ _ ih1 ih2 => exact fun hj => ih1 (ih2 hj)

theorem pre_ready (I : Inv os xs tr n β0 h0 w0 ds listed a w β q) {i j : Nat} (h : Pre os i j) (hed : ∀ k ∈ edgesOf os j, lit listed k) : lit listed i := by
  cases h with
  | edge h => exact hed _ h
  | trans h1 h2 =>
    rename_i k
    have : lit listed k := by
      clear h1
      induction h2 with
      | edge h => exact hed _ h
      | trans g1 g2 ih1 ih2 => exact I.closed g1 (ih2 hed)
    exact I.closed h1 this

theorem not_apart_dst {x y : AOp} {t : Nat} (hx : x.dst = some t) (hy : y.dst = some t) : apart x y = false := by
  simp [apart, hx, hy]
theorem not_apart_read {x y : AOp} {t : Nat} (hx : x.dst = some t) (hy : t ∈ readsX y) : apart x y = false := by
  simp [apart, notIn, hx, hy]
theorem not_apart_read' {x y : AOp} {t : Nat} (hy : y.dst = some t) (hx : t ∈ readsX x) : apart x y = false := by
  simp [apart, notIn, hy, hx]

theorem env_step (D : DS P n os xs) (T : TR cf xs tr) (I : Inv os xs tr n β0 h0 w0 ds listed a w β q) {p : Nat} {x : XOp} (hx : xs[p]? = some x) (hi : x.2.1 < os.size) (hno : ¬ lit listed x.2.1)
    {β' : Bt} (hβ : β.le β') {v : Option AV} {c : Value} {d : Option Nat} (hd : x.1.dst = d) (hdn : ∀ t, d = some t → t < n) (htr : (tr (p + 1)).1 = bindE x.1.dst v (tr p).1) (hv : ∀ u, v = some u → ARel β' u c) :
    ∀ p', p' ≤ xs.length → ∀ t, (∀ (r : Nat) (y : XOp), r < p' → xs[r]? = some y → y.1.dst = some t → lit (listed.setIfInBounds x.2.1 true) y.2.1) →
    (∀ (r : Nat) (y : XOp), p' ≤ r → xs[r]? = some y → y.1.dst = some t → ¬ lit (listed.setIfInBounds x.2.1 true) y.2.1) →
    ∀ v', (tr p').1.get t = some v' → ∃ c', (a.put d c).tmps[t]? = some c' ∧ ARel β' v' c' := by
  intro p' hp' t hA hB v' hget
  have hs : x.2.1 < listed.size := by rw [I.lsz]; exact hi
  by_cases hdt : x.1.dst = some t
  · have hpp : p < p' := by
      rcases Nat.lt_or_ge p p' with h | h
      · exact h
      · exact absurd ((lit_set hs).2 (.inl rfl)) (hB p x h hx hdt)
    have hbetween : ∀ (r : Nat) (y : XOp), p < r → r < p' → xs[r]? = some y → y.1.dst ≠ some t := by
      intro r y h1 h2 hy hyd
      have hl := hA r y h2 hy hyd
      have hne := (D.pair p r x y h1 hx hy).1
      rcases (lit_set hs).1 hl with h3 | h3
      · exact hne h3.symm
      · rcases (D.pair p r x y h1 hx hy).2 with h4 | h4 | h4
        · exact hno (I.closed h4 h3)
        · have := D.pre_lt hy hx h4; omega
        · rw [not_apart_dst hdt hyd] at h4; simp at h4
    have hconst : ∀ k, p + 1 + k ≤ p' → (tr (p + 1 + k)).1.get t = (tr (p + 1)).1.get t := by
      intro k
      induction k with
      | zero => intro _; rfl
      | succ k ih =>
        intro hk
        have hr : p + 1 + k < xs.length := by omega
        have hy := List.getElem?_eq_getElem hr
        obtain ⟨u, hu⟩ := runOp_env (T.step _ _ hy).1
        rw [show p + 1 + (k + 1) = (p + 1 + k) + 1 by omega, hu, bindE_get, if_neg (hbetween _ _ (by omega) (by omega) hy)]
        exact ih (by omega)
    have h1 := hconst (p' - (p + 1)) (by omega)
    rw [show p + 1 + (p' - (p + 1)) = p' by omega, htr, bindE_get, if_pos hdt] at h1
    rw [h1] at hget
    rw [← hd, hdt]
    refine ⟨c, ?_, hv _ hget⟩
    have : t < a.tmps.size := by rw [I.n]; exact hdn t (by rw [← hd, hdt])
    simp [Act.put, this]
  · obtain ⟨c', h1, h2⟩ := I.env p' hp' t (fun r y hr hy hyd => by
      rcases (lit_set hs).1 (hA r y hr hy hyd) with h3 | h3
      · have := D.uniq hy hx h3
        subst this
        rw [hx] at hy; simp at hy; subst hy
        exact absurd hyd hdt
      · exact h3) (fun r y hr hy hyd hl => hB r y hr hy hyd ((lit_set hs).2 (.inr hl))) v' hget
    refine ⟨c', ?_, h2.mono hβ⟩
    rw [← hd]
    cases hxd : x.1.dst with
    | none => exact h1
    | some s =>
      have : s ≠ t := fun e => hdt (by rw [hxd, e])
      simp [Act.put, Array.getElem?_setIfInBounds_ne this, h1]

theorem reads_env (D : DS P n os xs) (I : Inv os xs tr n β0 h0 w0 ds listed a w β q) {p : Nat} {x : XOp} (hx : xs[p]? = some x) (hno : ¬ lit listed x.2.1)
    (hed : ∀ k ∈ edgesOf os x.2.1, lit listed k) : ERel β ((tr p).1.keep (readsX x.1)) a.tmps := by
  intro t v hget
  have hmem : t ∈ readsX x.1 := by
    apply Classical.byContradiction
    intro hn
    have : ∀ ks : List Nat, t ∉ ks → Env.get ((tr p).1.keep ks) t = none := by
      intro ks
      induction ks with
      | nil => intro _; rfl
      | cons k ks ih =>
        intro hk
        simp only [List.mem_cons, not_or] at hk
        simp only [Env.keep, List.map_cons, Env.get, if_neg (Ne.symm hk.1)]
        exact ih hk.2
    rw [this _ hn] at hget
    simp at hget
  rw [Env.get_keep_mem _ _ _ hmem] at hget
  have hp : p < xs.length := (List.getElem?_eq_some_iff.1 hx).1
  refine I.env p (by omega) t (fun r y hr hy hyd => ?_) (fun r y hr hy hyd hl => ?_) v hget
  · rcases (D.pair r p y x hr hy hx).2 with h4 | h4 | h4
    · exact pre_ready I h4 hed
    · have := D.pre_lt hx hy h4; omega
    · rw [not_apart_read hyd hmem] at h4; simp at h4
  · by_cases e : r = p
    · subst e
      rw [hx] at hy; simp at hy; subst hy
      exact hno hl
    · rcases (D.pair p r x y (by omega) hx hy).2 with h4 | h4 | h4
      · exact hno (I.closed h4 hl)
      · have := D.pre_lt hy hx h4; omega
      · rw [not_apart_read' hyd hmem] at h4; simp at h4

end
end Go.Ab
