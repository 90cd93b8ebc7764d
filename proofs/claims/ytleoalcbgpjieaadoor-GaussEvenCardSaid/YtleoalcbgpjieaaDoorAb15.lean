import Derived.Test.YtleoalcbgpjieaaDoorAb13
/- Regions whose order is open: whatever order the tape picks, the outcome is that of the one order reckoned here. -/
namespace Go.Ab
variable [Base]
set_option linter.unusedSectionVars false
set_option linter.unusedVariables false

def lit (listed : Array Bool) (i : Nat) : Prop := listed.getD i false = true
def exP (xs : List XOp) (listed : Array Bool) (p : Nat) : Prop := ∃ x, xs[p]? = some x ∧ lit listed x.2.1
def loud (tr : Nat → Env × Heap) (p : Nat) : Prop := ¬ (tr (p + 1)).2.take (tr p).2.length = (tr p).2

theorem lit_set {listed : Array Bool} {i j : Nat} (hi : i < listed.size) : lit (listed.setIfInBounds i true) j ↔ j = i ∨ lit listed j := by
  unfold lit
  by_cases e : i = j
  · subst e; simp [hi]
  · rw [getD_set_ne false e]
    constructor
    · exact .inr
    · rintro (h | h)
      · exact absurd h.symm e
      · exact h

structure TR (os : Array Oper) (sf al : XOp → Bool) (cf : CF) (xs : List XOp) (tr : Nat → Env × Heap) : Prop where
  step : ∀ (p : Nat) (x : XOp), xs[p]? = some x → runOp cf x.1 (tr p).1 (tr p).2 = some (tr (p + 1)) ∧ (x.2.2 = true ∨ ¬ loud tr p)
  soft : ∀ (p : Nat) (x : XOp), xs[p]? = some x → sf x = true → ∀ (v : Option AV) (h1 : Heap), opRun cf (tr p).1 (tr p).2 x.1.k = some (v, h1) → h1 = (tr p).2 ∧ ∀ r, r ≤ xs.length → (∀ (s : Nat) (y : XOp), xs[s]? = some y → p ≤ s → s < r → loud tr s → ¬ Pre os x.2.1 y.2.1) → opRun cf (tr p).1 (tr r).2 x.1.k = some (v, (tr r).2)
  alc : ∀ (p : Nat) (x : XOp), xs[p]? = some x → al x = true → x.2.2 = false ∧ ∀ (v : Option AV) (h1 : Heap), opRun cf (tr p).1 (tr p).2 x.1.k = some (v, h1) → ∃ N, h1 = (tr p).2 ++ N ∧ (∀ g : Heap, g.length = (tr p).2.length → opRun cf (tr p).1 g x.1.k = some (v, g ++ N)) ∧
    ∀ r, p < r → r ≤ xs.length → tr (p + 1) = (bindE x.1.dst v (tr p).1, h1) → (∀ (s : Nat) (y : XOp), xs[s]? = some y → p < s → s < r → loud tr s → ¬ Pre os x.2.1 y.2.1) → ∀ id, (tr p).2.length ≤ id → id < h1.length → (tr r).2[id]? = h1[id]?

theorem runOp_env {cf : CF} {x : AOp} {E E' : Env} {h h' : Heap} (hs : runOp cf x E h = some (E', h')) : ∃ v, E' = bindE x.dst v E := by
  unfold runOp at hs
  split at hs
  · simp only [Option.map_eq_some_iff, Prod.mk.injEq] at hs
    obtain ⟨r, _, rfl, _⟩ := hs
    exact ⟨_, rfl⟩
  · simp at hs; exact ⟨some (.tup []), hs.1.symm⟩
  · simp at hs

theorem take_get {h h1 : Heap} (hp : h.take h1.length = h1) {i : Nat} (hi : i < h1.length) : h[i]? = h1[i]? := by
  have := congrArg (fun l : Heap => l[i]?) hp
  simp only [List.getElem?_take, if_pos hi] at this
  exact this

theorem rep_prefix {β : Bt} {h h1 : Heap} {w : World} (hp : h.take h1.length = h1) (R : Rep β h w) : Rep β h1 w := by
  have key : ∀ (i : Nat) (b : Blk), h1[i]? = some b → h[i]? = some b := fun i b hb => by
    rw [take_get hp (List.getElem?_eq_some_iff.1 hb).1]; exact hb
  exact ⟨fun id b L hg hL => R.sz id b L (key _ _ hg) hL, fun id L cs rw esz hg hL => R.blk id L cs rw esz (key _ _ hg) hL, fun i j L M cs esz cs' rw' esz' hi hj => R.exc i j L M cs esz cs' rw' esz' (key _ _ hi) (key _ _ hj), R.keep⟩

theorem owned_prefix {β : Bt} {h h1 : Heap} (hp : h.take h1.length = h1) {b : Nat} (ho : owned β h1 b) : owned β h b := by
  obtain ⟨id, L, cs, esz, hg, hL, rfl⟩ := ho
  exact ⟨id, L, cs, esz, by rw [take_get hp (List.getElem?_eq_some_iff.1 hg).1]; exact hg, hL, rfl⟩

section
variable {sf al : XOp → Bool} {P : Program} {n : Nat} {os : Array Oper} {xs : List XOp} {cf : CF} {tr : Nat → Env × Heap}

theorem tr_len (CO : CallOK P cf) (T : TR os sf al cf xs tr) {p : Nat} (hp : p < xs.length) : (tr p).2.length ≤ (tr (p + 1)).2.length := by
  obtain ⟨x, hx⟩ : ∃ x, xs[p]? = some x := ⟨xs[p], List.getElem?_eq_getElem hp⟩
  exact runOp_len CO (T.step p x hx).1

theorem tr_mono (CO : CallOK P cf) (T : TR os sf al cf xs tr) {p q : Nat} (hpq : p ≤ q) (hq : q ≤ xs.length) : (tr p).2.length ≤ (tr q).2.length := by
  induction q with
  | zero => have : p = 0 := by omega
            subst this; exact Nat.le_refl _
  | succ q ih =>
    by_cases e : p = q + 1
    · subst e; exact Nat.le_refl _
    · exact Nat.le_trans (ih (by omega) (by omega)) (tr_len CO T (by omega))

theorem tr_prefix (CO : CallOK P cf) (T : TR os sf al cf xs tr) {p q : Nat} (hpq : p ≤ q) (hq : q ≤ xs.length) (hno : ∀ r, p ≤ r → r < q → ¬ loud tr r) : (tr q).2.take (tr p).2.length = (tr p).2 := by
  induction q with
  | zero => have : p = 0 := by omega
            subst this; simp
  | succ q ih =>
    by_cases e : p = q + 1
    · subst e; simp
    · have h1 := ih (by omega) (by omega) (fun r h1 h2 => hno r h1 (by omega))
      have h2 : (tr (q + 1)).2.take (tr q).2.length = (tr q).2 := Classical.not_not.1 (hno q (by omega) (by omega))
      have h3 := tr_mono CO T (show p ≤ q by omega) (by omega)
      have h4 := congrArg (List.take (tr p).2.length) h2
      rw [List.take_take, Nat.min_eq_left h3, h1] at h4
      exact h4

theorem next_loud (tr : Nat → Env × Heap) (m : Nat) : ∀ (d k : Nat), m - k = d → k ≤ m → ∃ q, k ≤ q ∧ q ≤ m ∧ (∀ r, k ≤ r → r < q → ¬ loud tr r) ∧ (q = m ∨ loud tr q)
  | 0, k, hd, hk => ⟨m, hk, Nat.le_refl _, fun r h1 h2 => by omega, .inl rfl⟩
  | d + 1, k, hd, hk => by
    by_cases hl : loud tr k
    · exact ⟨k, Nat.le_refl _, hk, fun r h1 h2 => by omega, .inr hl⟩
    · obtain ⟨q, h1, h2, h3, h4⟩ := next_loud tr m d (k + 1) (by omega) (by omega)
      refine ⟨q, by omega, h2, fun r h5 h6 => ?_, h4⟩
      by_cases e : r = k
      · subst e; exact hl
      · exact h3 r (by omega) h6

structure Inv (os : Array Oper) (xs : List XOp) (tr : Nat → Env × Heap) (n : Nat) (β0 : Bt) (h0 : Heap) (w0 : World) (ds : List Deferred) (listed : Array Bool) (a : Act) (w : World) (β : Bt) (q : Nat) : Prop where
  lsz : listed.size = os.size
  cl : ∀ i j, i ∈ edgesOf os j → lit listed j → lit listed i
  n : a.tmps.size = n
  ds : a.defers = ds
  qm : q ≤ xs.length
  qa : ∀ p, p < q → loud tr p → exP xs listed p
  qb : q = xs.length ∨ (loud tr q ∧ ¬ exP xs listed q)
  rep : Rep β (tr q).2 w
  dom : ∀ id L, β id = some L → β0 id = some L ∨ ∃ p, exP xs listed p ∧ (tr p).2.length ≤ id ∧ id < (tr (p + 1)).2.length
  full : ∀ p, exP xs listed p → ∀ id, (tr p).2.length ≤ id → id < (tr (p + 1)).2.length → ∃ L, β id = some L
  ext : β0.le β
  own : ∀ b, owned β (tr q).2 b → w0.heap.size ≤ b ∨ owned β0 h0 b
  new : ∀ id L, β id = some L → β0 id = none → w0.heap.size ≤ L.b ∨ owned β0 h0 L.b
  frame : ∀ b, b < w0.heap.size → ¬ owned β0 h0 b → w.heap[b]? = w0.heap[b]?
  size : w0.heap.size ≤ w.heap.size
  os : w.os = w0.os
  tape : w.tape = w0.tape
  output : w.output = w0.output
  env : ∀ p', p' ≤ xs.length → ∀ t, (∀ (r : Nat) (y : XOp), r < p' → xs[r]? = some y → y.1.dst = some t → lit listed y.2.1) →
    (∀ (r : Nat) (y : XOp), p' ≤ r → xs[r]? = some y → y.1.dst = some t → ¬ lit listed y.2.1) →
    ∀ v, (tr p').1.get t = some v → ∃ c, a.tmps[t]? = some c ∧ ARel β v c

variable {β0 β : Bt} {h0 : Heap} {w0 w : World} {ds : List Deferred} {listed : Array Bool} {a : Act} {q : Nat}

theorem Inv.closed (I : Inv os xs tr n β0 h0 w0 ds listed a w β q) {i j : Nat} (h : Pre os i j) : lit listed j → lit listed i := by
  induction h with
  | edge h => exact I.cl _ _ h
  | trans _ _ ih1 ih2 => exact fun hj => ih1 (ih2 hj)

theorem pre_ready (I : Inv os xs tr n β0 h0 w0 ds listed a w β q) {i j : Nat} (h : Pre os i j) (hed : ∀ k ∈ edgesOf os j, lit listed k) : lit listed i := by
  cases h with
  | edge h => exact hed _ h
  | trans h1 h2 =>
    rename_i k
    have : lit listed k := by
      clear h1
      induction h2 with
      | edge h => exact hed _ h
      | trans g1 g2 ih1 ih2 => exact I.closed g1 (ih2 hed)
    exact I.closed h1 this

theorem not_apart_dst {x y : AOp} {t : Nat} (hx : x.dst = some t) (hy : y.dst = some t) : apart x y = false := by
  simp [apart, hx, hy]
theorem not_apart_read {x y : AOp} {t : Nat} (hx : x.dst = some t) (hy : t ∈ readsX y) : apart x y = false := by
  simp [apart, notIn, hx, hy]
theorem not_apart_read' {x y : AOp} {t : Nat} (hy : y.dst = some t) (hx : t ∈ readsX x) : apart x y = false := by
  simp [apart, notIn, hy, hx]

theorem env_step (D : DS sf al P n os xs) (T : TR os sf al cf xs tr) (I : Inv os xs tr n β0 h0 w0 ds listed a w β q) {p : Nat} {x : XOp} (hx : xs[p]? = some x) (hi : x.2.1 < os.size) (hno : ¬ lit listed x.2.1)
    {β' : Bt} (hβ : β.le β') {v : Option AV} {c : Value} {d : Option Nat} (hd : x.1.dst = d) (hdn : ∀ t, d = some t → t < n) (htr : (tr (p + 1)).1 = bindE x.1.dst v (tr p).1) (hv : ∀ u, v = some u → ARel β' u c) :
    ∀ p', p' ≤ xs.length → ∀ t, (∀ (r : Nat) (y : XOp), r < p' → xs[r]? = some y → y.1.dst = some t → lit (listed.setIfInBounds x.2.1 true) y.2.1) →
    (∀ (r : Nat) (y : XOp), p' ≤ r → xs[r]? = some y → y.1.dst = some t → ¬ lit (listed.setIfInBounds x.2.1 true) y.2.1) →
    ∀ v', (tr p').1.get t = some v' → ∃ c', (a.put d c).tmps[t]? = some c' ∧ ARel β' v' c' := by
  intro p' hp' t hA hB v' hget
  have hs : x.2.1 < listed.size := by rw [I.lsz]; exact hi
  by_cases hdt : x.1.dst = some t
  · have hpp : p < p' := by
      rcases Nat.lt_or_ge p p' with h | h
      · exact h
      · exact absurd ((lit_set hs).2 (.inl rfl)) (hB p x h hx hdt)
    have hbetween : ∀ (r : Nat) (y : XOp), p < r → r < p' → xs[r]? = some y → y.1.dst ≠ some t := by
      intro r y h1 h2 hy hyd
      have hl := hA r y h2 hy hyd
      have hne := (D.pair p r x y h1 hx hy).1
      rcases (lit_set hs).1 hl with h3 | h3
      · exact hne h3.symm
      · rcases (D.pair p r x y h1 hx hy).2 with h4 | h4 | h4
        · exact hno (I.closed h4 h3)
        · have := D.pre_lt hy hx h4; omega
        · rw [not_apart_dst hdt hyd] at h4; simp at h4
    have hconst : ∀ k, p + 1 + k ≤ p' → (tr (p + 1 + k)).1.get t = (tr (p + 1)).1.get t := by
      intro k
      induction k with
      | zero => intro _; rfl
      | succ k ih =>
        intro hk
        have hr : p + 1 + k < xs.length := by omega
        have hy := List.getElem?_eq_getElem hr
        obtain ⟨u, hu⟩ := runOp_env (T.step _ _ hy).1
        rw [show p + 1 + (k + 1) = (p + 1 + k) + 1 by omega, hu, bindE_get, if_neg (hbetween _ _ (by omega) (by omega) hy)]
        exact ih (by omega)
    have h1 := hconst (p' - (p + 1)) (by omega)
    rw [show p + 1 + (p' - (p + 1)) = p' by omega, htr, bindE_get, if_pos hdt] at h1
    rw [h1] at hget
    rw [← hd, hdt]
    refine ⟨c, ?_, hv _ hget⟩
    have : t < a.tmps.size := by rw [I.n]; exact hdn t (by rw [← hd, hdt])
    simp [Act.put, this]
  · obtain ⟨c', h1, h2⟩ := I.env p' hp' t (fun r y hr hy hyd => by
      rcases (lit_set hs).1 (hA r y hr hy hyd) with h3 | h3
      · have := D.uniq hy hx h3
        subst this
        rw [hx] at hy; simp at hy; subst hy
        exact absurd hyd hdt
      · exact h3) (fun r y hr hy hyd hl => hB r y hr hy hyd ((lit_set hs).2 (.inr hl))) v' hget
    refine ⟨c', ?_, h2.mono hβ⟩
    rw [← hd]
    cases hxd : x.1.dst with
    | none => exact h1
    | some s =>
      have : s ≠ t := fun e => hdt (by rw [hxd, e])
      simp [Act.put, Array.getElem?_setIfInBounds_ne this, h1]

theorem reads_env (D : DS sf al P n os xs) (I : Inv os xs tr n β0 h0 w0 ds listed a w β q) {p : Nat} {x : XOp} (hx : xs[p]? = some x) (hno : ¬ lit listed x.2.1)
    (hed : ∀ k ∈ edgesOf os x.2.1, lit listed k) : ERel β ((tr p).1.keep (readsX x.1)) a.tmps := by
  intro t v hget
  have hmem : t ∈ readsX x.1 := by
    apply Classical.byContradiction
    intro hn
    have : ∀ ks : List Nat, t ∉ ks → Env.get ((tr p).1.keep ks) t = none := by
      intro ks
      induction ks with
      | nil => intro _; rfl
      | cons k ks ih =>
        intro hk
        simp only [List.mem_cons, not_or] at hk
        simp only [Env.keep, List.map_cons, Env.get, if_neg (Ne.symm hk.1)]
        exact ih hk.2
    rw [this _ hn] at hget
    simp at hget
  rw [Env.get_keep_mem _ _ _ hmem] at hget
  have hp : p < xs.length := (List.getElem?_eq_some_iff.1 hx).1
  refine I.env p (by omega) t (fun r y hr hy hyd => ?_) (fun r y hr hy hyd hl => ?_) v hget
  · rcases (D.pair r p y x hr hy hx).2 with h4 | h4 | h4
    · exact pre_ready I h4 hed
    · have := D.pre_lt hx hy h4; omega
    · rw [not_apart_read hyd hmem] at h4; simp at h4
  · by_cases e : r = p
    · subst e
      rw [hx] at hy; simp at hy; subst hy
      exact hno hl
    · rcases (D.pair p r x y (by omega) hx hy).2 with h4 | h4 | h4
      · exact hno (I.closed h4 hl)
      · have := D.pre_lt hy hx h4; omega
      · rw [not_apart_read' hyd hmem] at h4; simp at h4

end

theorem TR.pure0 {os : Array Oper} {cf : CF} {xs : List XOp} {tr : Nat → Env × Heap} (hs : ∀ (p : Nat) (x : XOp), xs[p]? = some x → runOp cf x.1 (tr p).1 (tr p).2 = some (tr (p + 1)) ∧ (x.2.2 = true ∨ ¬ loud tr p)) : TR os pureX alN cf xs tr :=
  ⟨hs, fun p x _ hp v h1 hr => let ⟨a, b⟩ := pure_run hp hr; ⟨a, fun r _ _ => b _⟩, fun p x _ h => by cases h⟩
theorem TR.pure {P : Program} {n : Nat} {os : Array Oper} {cf : CF} {xs : List XOp} {tr : Nat → Env × Heap} (hM : okM os xs = true) (hs : ∀ (p : Nat) (x : XOp), xs[p]? = some x → runOp cf x.1 (tr p).1 (tr p).2 = some (tr (p + 1)) ∧ (x.2.2 = true ∨ ¬ loud tr p)) : TR os (sfM xs) alN cf xs tr := by
  refine ⟨hs, fun p x hx hp v h1 hr => ?_, fun p x _ h => by cases h⟩
  by_cases hpu : isPure x.1.k = true
  · obtain ⟨a, b⟩ := pure_run hpu hr
    exact ⟨a, fun r _ _ => b _⟩
  have ht : isTwin xs x = true := by
    unfold sfM at hp
    simpa [hpu] using hp
  obtain ⟨c1, c2, c3⟩ := okM_spec hM hx ht
  have hpl : p < xs.length := (List.getElem?_eq_some_iff.1 hx).1
  obtain ⟨z, zero, a, k, hk⟩ : ∃ z zero a k, x.1.k = .mpL z zero false a k := by
    unfold isTwin at ht
    obtain ⟨y, -, hy⟩ := List.any_eq_true.1 ht
    unfold twinOf twinK at hy
    split at hy
    · rename_i h1 h2; exact ⟨_, _, _, _, h1⟩
    · cases hy
  have hh : h1 = (tr p).2 := by
    rw [hk] at hr
    simp only [opRun, step1] at hr
    split at hr
    · split at hr
      · split at hr
        · simp only [Option.bind_eq_some_iff] at hr
          obtain ⟨_, _, _, _, _, _, hr⟩ := hr
          split at hr
          · simp only [Option.some.injEq, Prod.mk.injEq] at hr; exact hr.2.symm
          · simp at hr
        · simp at hr
      · simp at hr
    · simp at hr
  refine ⟨hh, fun r hrl hno => ?_⟩
  have st : ∀ (E : Env) (h : Heap), opRun cf E h x.1.k = step1 E h x.1.k := fun E h => by rw [hk]; rfl
  have hr0 : step1 (tr p).1 (tr p).2 x.1.k = some (v, (tr p).2) := by rw [← st, hr, hh]
  rw [st]
  -- before it nothing changes
  have before : ∀ j, j ≤ p → (tr (p - j)).2 = (tr p).2 := by
    intro j
    induction j with
    | zero => intro _; rfl
    | succ j ih =>
      intro hj
      have hy := List.getElem?_eq_getElem (show p - (j + 1) < xs.length by omega)
      have hso := c1 _ _ (by omega) hy
      have h2 := (hs _ _ hy).1
      have e : p - (j + 1) + 1 = p - j := by omega
      rw [e] at h2
      rw [← ih (by omega)]
      unfold runOp at h2
      split at h2
      · simp only [Option.map_eq_some_iff] at h2
        obtain ⟨⟨u, g⟩, hq, htr⟩ := h2
        rw [← htr]
        exact (soft_run hso hq).symm
      · simp at h2; rw [← h2]
      · simp at h2
  rcases Nat.le_total r p with hle | hge
  · have := before (p - r) (by omega)
    rw [show p - (p - r) = r by omega] at this
    rw [this]; exact hr0
  · obtain ⟨d, rfl⟩ : ∃ d, r = p + d := ⟨r - p, by omega⟩
    have env : ∀ j, 1 ≤ j → p + j ≤ xs.length → ∀ t ∈ reads x.1.k, (tr (p + j)).1.get t = (tr p).1.get t := by
      intro j
      induction j with
      | zero => intro h; omega
      | succ j ih =>
        intro _ hj t ht
        have hy := List.getElem?_eq_getElem (show p + j < xs.length by omega)
        obtain ⟨u, hu⟩ := runOp_env (hs _ _ hy).1
        rw [← Nat.add_assoc, hu, bindE_get]
        have nw : ¬ xs[p + j].1.dst = some t := fun e => by
          have hn : notIn xs[p + j].1.dst (reads x.1.k) = true := by
            rcases Nat.eq_zero_or_pos j with rfl | hjp
            · simp only [Nat.add_zero] at hy ⊢
              rw [hx] at hy
              rw [← Option.some.inj hy]; exact c2
            · exact (c3 _ _ (by omega) hy).1
          rw [e] at hn
          simp only [notIn, Bool.not_eq_true', List.contains_eq_mem, decide_eq_false_iff_not] at hn
          exact hn ht
        rw [if_neg nw]
        rcases Nat.eq_zero_or_pos j with rfl | hjp
        · rfl
        · exact ih hjp (by omega) t ht
    have after : ∀ j, j ≤ d → step1 (tr p).1 (tr (p + j)).2 x.1.k = some (v, (tr (p + j)).2) := by
      intro j
      induction j with
      | zero => intro _; exact hr0
      | succ j ih =>
        intro hj
        have ih' := ih (by omega)
        have hy := List.getElem?_eq_getElem (show p + j < xs.length by omega)
        obtain ⟨h2, h3⟩ := hs _ _ hy
        rw [← Nat.add_assoc]
        by_cases hl : loud tr (p + j)
        · have hjp : 0 < j := by
            rcases Nat.eq_zero_or_pos j with rfl | hjp
            · exfalso
              simp only [Nat.add_zero] at hy hl h2
              rw [hx] at hy
              apply hl
              unfold runOp at h2
              rw [← Option.some.inj hy] at h2
              split at h2
              · simp only [hr, hh, Option.map_some, Option.some.injEq] at h2
                rw [← h2]; simp
              · simp at h2; rw [← h2]; simp
              · simp at h2
            · exact hjp
          have hm := h3.resolve_right (fun h => h hl)
          have hnp := hno _ _ hy (by omega) (by omega) hl
          unfold runOp at h2
          split at h2
          · simp only [Option.map_eq_some_iff] at h2
            obtain ⟨⟨u, g⟩, hq, htr⟩ := h2
            have hg : (tr (p + j + 1)).2 = g := by rw [← htr]
            rcases (c3 _ _ (by omega) hy).2 with h4 | h4 | h4 | h4
            · exact absurd hl fun hl => hl (by rw [hg, soft_run h4 hq]; simp)
            · rw [hm] at h4; cases h4
            · rw [hg]
              have hq' : step1 (tr (p + j)).1 (tr (p + j)).2 xs[p + j].1.k = some (u, g) := by
                rw [← hq]
                unfold twinOf twinK at h4
                split at h4
                · rename_i h5; rw [h5]; rfl
                · cases h4
              exact twin_run h4 (fun t ht => (env j hjp (by omega) t ht).symm) ih' hq'
            · exact absurd h4 hnp
          · simp at h2; exact absurd hl fun hl => hl (by rw [← h2]; simp)
          · simp at h2
        · have ht2 := Classical.not_not.1 hl
          rw [hk] at ih' ⊢
          simp only [step1] at ih' ⊢
          split at ih'
          · split at ih'
            · rename_i id _ cs e hg
              have hid := (List.getElem?_eq_some_iff.1 hg).1
              rw [← take_get ht2 hid] at hg
              rw [hg]
              split at ih'
              · rename_i he
                simp only [he, if_true, Option.bind_eq_some_iff] at ih' ⊢
                obtain ⟨kv, q1, ks, q2, ns, q3, ih'⟩ := ih'
                refine ⟨kv, q1, ks, q2, ns, q3, ?_⟩
                split at ih'
                · rename_i hl2
                  rw [if_pos hl2]
                  simp only [Option.some.injEq, Prod.mk.injEq] at ih' ⊢
                  exact ⟨ih'.1, trivial⟩
                · cases ih'
              · cases ih'
            · cases ih'
          · cases ih'
    exact after d (Nat.le_refl _)
theorem or_and_of : ∀ b c : Bool, (b || (b && c)) = true → b = true := by decide
theorem TR.loads {P : Program} {n : Nat} {os : Array Oper} {cf : CF} {xs : List XOp} {tr : Nat → Env × Heap} {S A fr : List Nat} (CO : CallOK P cf) (D : DS softX (alX fr) P n os xs) (hsz : os.size ≤ 1000) (hfr0 : ∀ j ∈ fr, j < 1000 → ∀ x ∈ xs, (isLdU x = true ∨ alX fr x = true) → Pre os x.2.1 j) (hs : ∀ (p : Nat) (x : XOp), xs[p]? = some x →
      runOp cf x.1 (tr p).1 (tr p).2 = some (tr (p + 1)) ∧ (x.2.2 = true ∨ (tr (p + 1)).2.take (tr p).2.length = (tr p).2) ∧ (x.2.1 ∈ fr ∨ (∀ id ∈ S, (tr (p + 1)).2[id]? = (tr p).2[id]?) ∧ ∀ id ∈ A, id < (tr p).2.length → (tr (p + 1)).2[id]? = (tr p).2[id]?) ∧ (∀ id, ldX (tr p).1 x.2.2 x.1.k = some id → id ∈ S) ∧
      (1000 + x.2.1 ∈ fr → ∀ id, (tr p).2.length ≤ id → id < (tr (p + 1)).2.length → id ∈ A)) : TR os softX (alX fr) cf xs tr := by
  have num : ∀ (p : Nat) (x : XOp), xs[p]? = some x → x.2.1 < 1000 := fun p x hx => by
    obtain ⟨o, ho, -⟩ := D.mat p x hx
    have := (Array.getElem?_eq_some_iff.1 ho).1
    omega
  have hfr : ∀ {s : Nat} {y : XOp}, xs[s]? = some y → y.2.1 ∈ fr → ∀ x ∈ xs, isLdU x = true → Pre os x.2.1 y.2.1 := fun hy hj x hx hl => hfr0 _ hj (num _ _ hy) x hx (.inl hl)
  refine ⟨fun p x hx => ⟨(hs p x hx).1, (hs p x hx).2.1.imp (fun h => h) (fun h => Classical.not_not.2 h)⟩, fun p x hx hsf v h1 hr => ?_, fun p x hx hal => ?alc⟩
  case alc =>
    have hal' := hal
    simp only [alX, Bool.and_eq_true, Bool.not_eq_true', List.contains_iff_mem] at hal'
    obtain ⟨ha, ho, hm⟩ := hal'
    refine ⟨ho, fun v h1 hr => ?_⟩
    obtain ⟨N, hN, hg⟩ := al_run ha hr
    refine ⟨N, hN, hg, fun r hpr hrl htr hno id i1 i2 => ?_⟩
    have hA := (hs p x hx).2.2.2.2 hm id i1 (by rw [htr]; exact i2)
    have after : ∀ k, p + 1 + k ≤ r → (tr (p + 1 + k)).2[id]? = h1[id]? := by
      intro k
      induction k with
      | zero => intro _; rw [Nat.add_zero, htr]
      | succ k ih =>
        intro hk
        have ih' := ih (by omega)
        have hlt : id < (tr (p + 1 + k)).2.length := by
          rw [List.getElem?_eq_getElem i2] at ih'
          exact (List.getElem?_eq_some_iff.1 ih').1
        have hy := List.getElem?_eq_getElem (show p + 1 + k < xs.length by omega)
        rw [← Nat.add_assoc, ← ih']
        rcases (hs _ _ hy).2.2.1 with hf | hst
        · have hnl : ¬ loud tr (p + 1 + k) := fun hl => hno _ _ hy (by omega) (by omega) hl (hfr0 _ hf (num _ _ hy) x (List.mem_of_getElem? hx) (.inr hal))
          exact take_get (Classical.not_not.1 hnl) hlt
        · exact hst.2 id hA hlt
    have := after (r - (p + 1)) (by omega)
    rwa [show p + 1 + (r - (p + 1)) = r by omega] at this
  have hp : p < xs.length := (List.getElem?_eq_some_iff.1 hx).1
  have hld := (hs p x hx).2.2.2.1
  cases hk : x.1.k
  case ld n agg a =>
    have ho : x.2.2 = false := by
      unfold softX at hsf
      rw [hk] at hsf
      simpa [isPure, isSoft] using hsf
    have hU : isLdU x = true := by simp [isLdU, hk, isPure, isSoft, ho]
    rw [hk] at hr hld
    rw [ho] at hld
    simp only [opRun, step1] at hr ⊢
    cases ha : evS (tr p).1 a with
    | none => rw [ha] at hr; simp at hr
    | some s =>
      rw [ha] at hr
      cases s
      case ptr id off =>
        have hin := hld id (by simp [ldX, ldAt, ha])
        -- before it
        have before : ∀ k, k ≤ p → (tr (p - k)).2[id]? = (tr p).2[id]? := by
          intro k
          induction k with
          | zero => intro _; rfl
          | succ k ih =>
            intro hkp
            have hy := List.getElem?_eq_getElem (show p - (k + 1) < xs.length by omega)
            rcases (hs _ _ hy).2.2.1 with hf | hst
            · have := D.pre_lt hx hy (hfr hy hf x (List.mem_of_getElem? hx) hU)
              omega
            · have := hst.1 id hin
              rw [show p - (k + 1) + 1 = p - k by omega, ih (by omega)] at this
              exact this.symm
        simp only at hr ⊢
        cases hrd : readN (tr p).2 id off n with
        | none => rw [hrd] at hr; simp at hr
        | some vs =>
          rw [hrd] at hr
          simp only [Option.bind_some, Option.map_eq_some_iff, Prod.mk.injEq] at hr
          obtain ⟨c, hc, hv, hh⟩ := hr
          subst hv
          obtain ⟨b, hb⟩ : ∃ b, (tr p).2[id]? = some b := by
            unfold readN at hrd
            split at hrd
            · rename_i hg; exact ⟨_, hg⟩
            · cases hrd
          refine ⟨hh.symm, fun r hr2 hno => ?_⟩
          have same : (tr r).2[id]? = (tr p).2[id]? := by
            rcases Nat.le_total r p with hle | hge
            · have := before (p - r) (by omega)
              rwa [show p - (p - r) = r by omega] at this
            · have after : ∀ k, p + k ≤ r → (tr (p + k)).2[id]? = (tr p).2[id]? := by
                intro k
                induction k with
                | zero => intro _; rfl
                | succ k ih =>
                  intro hkr
                  have ih' := ih (by omega)
                  have hy := List.getElem?_eq_getElem (show p + k < xs.length by omega)
                  have hst : (tr (p + k + 1)).2[id]? = (tr (p + k)).2[id]? := by
                    rcases (hs _ _ hy).2.2.1 with hf | hst
                    · have hnl : ¬ loud tr (p + k) := fun hl => hno _ _ hy (by omega) (by omega) hl (hfr hy hf x (List.mem_of_getElem? hx) hU)
                      have ht := Classical.not_not.1 hnl
                      exact take_get ht (by rw [hb] at ih'; exact (List.getElem?_eq_some_iff.1 ih').1)
                    · exact hst.1 id hin
                  rw [← Nat.add_assoc, hst, ih']
              have := after (r - p) (by omega)
              rwa [show p + (r - p) = r by omega] at this
          have e : readN (tr r).2 id off n = readN (tr p).2 id off n := by
            unfold readN
            rw [same]
          rw [e, hrd]
          simp only [Option.bind_some, hc, Option.map_some]
      all_goals simp at hr
  case sl esz a lo hi =>
    have ho : x.2.2 = false := by
      unfold softX at hsf
      rw [hk] at hsf
      simpa [isPure, isSoft] using hsf
    have hU : isLdU x = true := by simp [isLdU, hk, isPure, isSoft, ho]
    rw [hk] at hr hld
    rw [ho] at hld
    simp only [opRun, step1, Option.bind_eq_some_iff, Option.map_eq_some_iff, Prod.mk.injEq] at hr
    obtain ⟨q, hq, nn, hn, lb, hl, ub, hu, s, hs', hv, hh⟩ := hr
    subst hv
    have fin : ∀ r, sliceS (tr r).2 esz lb ub q = some s → opRun cf (tr p).1 (tr r).2 (.sl esz a lo hi) = some (some (.sc s), (tr r).2) := fun r h => by
      simp only [opRun, step1, hq, hn, hl, hu, h, Option.bind_some, Option.map_some]
    cases q
    case nilS => exact ⟨hh.symm, fun r _ _ => fin r hs'⟩
    case slc id off n' cap =>
        have hin := hld id (by simp [ldX, ldAt, hq])
        -- before it
        have before : ∀ k, k ≤ p → (tr (p - k)).2[id]? = (tr p).2[id]? := by
          intro k
          induction k with
          | zero => intro _; rfl
          | succ k ih =>
            intro hkp
            have hy := List.getElem?_eq_getElem (show p - (k + 1) < xs.length by omega)
            rcases (hs _ _ hy).2.2.1 with hf | hst
            · have := D.pre_lt hx hy (hfr hy hf x (List.mem_of_getElem? hx) hU)
              omega
            · have := hst.1 id hin
              rw [show p - (k + 1) + 1 = p - k by omega, ih (by omega)] at this
              exact this.symm
        obtain ⟨b, hb⟩ : ∃ b, (tr p).2[id]? = some b := by
          unfold sliceS at hs'
          simp only at hs'
          split at hs'
          · rename_i hg; exact ⟨_, hg⟩
          · cases hs'
        refine ⟨hh.symm, fun r hr2 hno => fin r ?_⟩
        have same : (tr r).2[id]? = (tr p).2[id]? := by
          rcases Nat.le_total r p with hle | hge
          · have := before (p - r) (by omega)
            rwa [show p - (p - r) = r by omega] at this
          · have after : ∀ k, p + k ≤ r → (tr (p + k)).2[id]? = (tr p).2[id]? := by
              intro k
              induction k with
              | zero => intro _; rfl
              | succ k ih =>
                intro hkr
                have ih' := ih (by omega)
                have hy := List.getElem?_eq_getElem (show p + k < xs.length by omega)
                have hst : (tr (p + k + 1)).2[id]? = (tr (p + k)).2[id]? := by
                  rcases (hs _ _ hy).2.2.1 with hf | hst
                  · have hnl : ¬ loud tr (p + k) := fun hl => hno _ _ hy (by omega) (by omega) hl (hfr hy hf x (List.mem_of_getElem? hx) hU)
                    have ht := Classical.not_not.1 hnl
                    exact take_get ht (by rw [hb] at ih'; exact (List.getElem?_eq_some_iff.1 ih').1)
                  · exact hst.1 id hin
                rw [← Nat.add_assoc, hst, ih']
            have := after (r - p) (by omega)
            rwa [show p + (r - p) = r by omega] at this
        rw [← hs']
        unfold sliceS
        simp only [same]
    all_goals simp [sliceS] at hs'
  all_goals
    have hp2 : isPure x.1.k = true := by
      unfold softX at hsf
      rw [hk] at hsf ⊢
      exact or_and_of _ _ hsf
    obtain ⟨a, b⟩ := pure_run hp2 hr
    exact ⟨a, fun r _ _ => by first | exact b _ | (rw [← hk]; exact b _)⟩
end Go.Ab


/- Regions whose order is open: one step, and all. -/
namespace Go.Ab
variable [Base]
set_option linter.unusedSectionVars false
set_option linter.unusedVariables false
section
variable {sf al : XOp → Bool} {P : Program} {n : Nat} {os : Array Oper} {xs : List XOp} {cf : CF} {tr : Nat → Env × Heap}
variable {β0 β : Bt} {h0 : Heap} {w0 w : World} {ds : List Deferred} {listed : Array Bool} {a : Act} {q : Nat}

/-- What is left of the invariant once the memory part is known. -/
theorem inv_of (D : DS sf al P n os xs) (CO : CallOK P cf) (T : TR os sf al cf xs tr) (ht0 : (tr 0).2 = h0) (I : Inv os xs tr n β0 h0 w0 ds listed a w β q) {p : Nat} {x : XOp} (hx : xs[p]? = some x) (hi : x.2.1 < os.size) (hno : ¬ lit listed x.2.1)
    (hed : ∀ k ∈ edgesOf os x.2.1, lit listed k) {β' : Bt} {w' : World} {hs hs' : Heap} (S : Stp β hs w β' hs' w') (hsub : ∀ b, owned β hs b → owned β (tr q).2 b)
    (hdom : ∀ id, hs.length ≤ id → id < hs'.length → (tr p).2.length ≤ id ∧ id < (tr (p + 1)).2.length)
    (hfull : ∀ id, (tr p).2.length ≤ id → id < (tr (p + 1)).2.length → ∃ L, β' id = some L)
    {q' : Nat} (qm : q' ≤ xs.length) (qa : ∀ r, r < q' → loud tr r → r = p ∨ exP xs listed r) (qb : q' = xs.length ∨ (loud tr q' ∧ q' ≠ p ∧ ¬ exP xs listed q')) (R : Rep β' (tr q').2 w')
    (own : ∀ b, owned β' (tr q').2 b → w.heap.size ≤ b ∨ owned β (tr q).2 b)
    {v : Option AV} {c : Value} {d : Option Nat} (hd : x.1.dst = d) (hdn : ∀ t, d = some t → t < n) (htr : (tr (p + 1)).1 = bindE x.1.dst v (tr p).1) (hv : ∀ u, v = some u → ARel β' u c) :
    Inv os xs tr n β0 h0 w0 ds (listed.setIfInBounds x.2.1 true) (a.put d c) w' β' q' := by
  have hsz : x.2.1 < listed.size := by rw [I.lsz]; exact hi
  have ex' : ∀ r, exP xs listed r → exP xs (listed.setIfInBounds x.2.1 true) r := fun r ⟨y, h1, h2⟩ => ⟨y, h1, (lit_set hsz).2 (.inr h2)⟩
  have exp : exP xs (listed.setIfInBounds x.2.1 true) p := ⟨x, hx, (lit_set hsz).2 (.inl rfl)⟩
  have exof : ∀ r, exP xs (listed.setIfInBounds x.2.1 true) r → r = p ∨ exP xs listed r := fun r ⟨y, k1, k2⟩ => by
    rcases (lit_set hsz).1 k2 with h3 | h3
    · exact .inl (D.uniq k1 hx h3)
    · exact .inr ⟨y, k1, h3⟩
  refine { lsz := by simp [I.lsz], cl := ?_, n := by rw [put_size]; exact I.n, ds := by rw [put_defers]; exact I.ds, qm := qm, qa := ?_, qb := ?_, rep := R, dom := ?_, full := ?_, ext := ?_, own := ?_, new := ?_, frame := ?_, size := Nat.le_trans I.size S.size, os := S.os.trans I.os, tape := S.tape.trans I.tape, output := S.output.trans I.output, env := ?_ }
  · intro i j hij hj
    rcases (lit_set hsz).1 hj with h3 | h3
    · subst h3; exact (lit_set hsz).2 (.inr (hed i hij))
    · exact (lit_set hsz).2 (.inr (I.cl i j hij h3))
  · intro r hr hl
    rcases qa r hr hl with rfl | h3
    · exact exp
    · exact ex' r h3
  · rcases qb with h3 | ⟨h3, h4, h5⟩
    · exact .inl h3
    · refine .inr ⟨h3, fun h6 => ?_⟩
      rcases exof _ h6 with h7 | h7
      · exact h4 h7
      · exact h5 h7
  · intro id L hL
    rcases S.dom id L hL with h3 | h3
    · rcases I.dom id L h3 with h4 | ⟨r, h4, h5⟩
      · exact .inl h4
      · exact .inr ⟨r, ex' r h4, h5⟩
    · exact .inr ⟨p, exp, hdom id h3.1 h3.2⟩
  · intro r hr id h3 h4
    rcases exof r hr with rfl | h5
    · exact hfull id h3 h4
    · obtain ⟨L, hL⟩ := I.full r h5 id h3 h4
      exact ⟨L, S.ext _ _ hL⟩
  · exact fun id L hL => S.ext _ _ (I.ext _ _ hL)
  · intro b hb
    rcases own b hb with h3 | h3
    · exact .inl (Nat.le_trans I.size h3)
    · exact I.own b h3
  · intro id L hL hn
    cases hb : β id with
    | none =>
      rcases S.new id L hL hb with h3 | h3
      · exact .inl (Nat.le_trans I.size h3)
      · exact I.own _ (hsub _ h3)
    | some M =>
      have := S.ext _ _ hb
      rw [hL] at this; simp at this; subst this
      exact I.new id L hb hn
  · intro b hb hn
    rw [S.frame b (Nat.lt_of_lt_of_le hb I.size) (fun ho => by
      rcases I.own b (hsub b ho) with h3 | h3
      · omega
      · exact hn h3)]
    exact I.frame b hb hn
  · exact env_step D T I hx hi hno S.ext hd hdn htr hv

theorem fresh_at (D : DS sf al P n os xs) (CO : CallOK P cf) (T : TR os sf al cf xs tr) (ht0 : (tr 0).2 = h0) (hf : fresh β0 h0 (tr xs.length).2) (I : Inv os xs tr n β0 h0 w0 ds listed a w β q) {p : Nat} {x : XOp} (hx : xs[p]? = some x) (hno : ¬ lit listed x.2.1) :
    fresh β (tr p).2 (tr (p + 1)).2 := by
  have hp : p < xs.length := (List.getElem?_eq_some_iff.1 hx).1
  intro id h1 h2
  cases hb : β id with
  | none => rfl
  | some L =>
    exfalso
    rcases I.dom id L hb with h3 | ⟨r, ⟨y, h3, h4⟩, h5, h6⟩
    · have e1 := tr_mono CO T (show 0 ≤ p by omega) (by omega)
      have e2 := tr_mono CO T (show p + 1 ≤ xs.length by omega) (Nat.le_refl _)
      rw [ht0] at e1
      rw [hf id (by omega) (by omega)] at h3
      simp at h3
    · have hr : r < xs.length := (List.getElem?_eq_some_iff.1 h3).1
      rcases Nat.lt_trichotomy r p with e | e | e
      · have := tr_mono CO T (show r + 1 ≤ p by omega) (by omega); omega
      · subst e; rw [hx] at h3; simp at h3; subst h3; exact hno h4
      · have := tr_mono CO T (show p + 1 ≤ r by omega) (by omega); omega

theorem pure_same (T : TR os sf al cf xs tr) {r : Nat} {y : XOp} (hy : xs[r]? = some y) (hp : sf y = true) : (tr (r + 1)).2 = (tr r).2 := by
  have h := (T.step r y hy).1
  unfold runOp at h
  split at h
  · simp only [Option.map_eq_some_iff] at h
    obtain ⟨⟨v, h1⟩, hr, htr⟩ := h
    rw [← htr]
    exact (T.soft r y hy hp v h1 hr).1
  · simp at h; rw [← h]
  · simp at h

/-- What only loads changes nothing. -/
theorem may_of (T : TR os sf al cf xs tr) {p : Nat} {x : XOp} (hx : xs[p]? = some x) (ho : x.2.2 = true) (hl : loud tr p) : mayX x = true := by
  cases hs : isSoft x.1.k with
  | false => simp [mayX, ho, hs]
  | true =>
    refine absurd hl fun hl => hl ?_
    have h := (T.step p x hx).1
    have key : ∀ v h1, opRun cf (tr p).1 (tr p).2 x.1.k = some (v, h1) → h1 = (tr p).2 := fun v h1 hr => by
      cases hk : x.1.k
      case ld n agg a =>
        rw [hk] at hr
        simp only [opRun, step1] at hr
        split at hr
        · simp only [Option.bind_eq_some_iff, Option.map_eq_some_iff, Prod.mk.injEq] at hr
          obtain ⟨_, _, _, _, _, hh⟩ := hr
          exact hh.symm
        · simp at hr
      case sl esz a lo hi =>
        rw [hk] at hr
        simp only [opRun, step1, Option.bind_eq_some_iff, Option.map_eq_some_iff, Prod.mk.injEq] at hr
        obtain ⟨_, _, _, _, _, _, _, _, _, _, _, hh⟩ := hr
        exact hh.symm
      all_goals
        have hp : isPure x.1.k = true := by rw [hk] at hs ⊢; exact hs
        exact (pure_run hp hr).1
    unfold runOp at h
    split at h
    · simp only [Option.map_eq_some_iff] at h
      obtain ⟨⟨v, h1⟩, hr, htr⟩ := h
      rw [← htr]
      simp [key v h1 hr]
    · simp at h; rw [← h]; simp
    · simp at h

theorem inv_step (D : DS sf al P n os xs) (CO : CallOK P cf) (T : TR os sf al cf xs tr) (ht0 : (tr 0).2 = h0) (hf : fresh β0 h0 (tr xs.length).2) (I : Inv os xs tr n β0 h0 w0 ds listed a w β q) {p : Nat} {x : XOp} {o : Oper} (hx : xs[p]? = some x)
    (ho : os[x.2.1]? = some o) (hok : okAOp P n os x.1 o = true) (hno : ¬ lit listed x.2.1) (hed : ∀ k ∈ edgesOf os x.2.1, lit listed k) {K : Act → World → Prop} {Q : Exit → Act → World → Prop}
    (hK : ∀ a' w' β' q', Inv os xs tr n β0 h0 w0 ds (listed.setIfInBounds x.2.1 true) a' w' β' q' → K a' w') :
    if Region.wanted o (yielded os a.tmps) then o.wp P a w K Q else K (a.put o.dst undef) w := by
  have hE := reads_env D I hx hno hed
  have hi : x.2.1 < os.size := (Array.getElem?_eq_some_iff.1 ho).1
  have hp : p < xs.length := (List.getElem?_eq_some_iff.1 hx).1
  obtain ⟨hrun, hord⟩ := T.step p x hx
  have hex : ¬ exP xs listed p := fun ⟨y, h1, h2⟩ => by rw [hx] at h1; simp at h1; subst h1; exact hno h2
  have hok' := hok
  simp only [okAOp, Bool.and_eq_true, decide_eq_true_eq] at hok'
  obtain ⟨⟨⟨k1, k2⟩, k3⟩, k4⟩ := hok'
  have hdn : ∀ t, o.dst = some t → t < n := by
    intro t ht
    rw [← k2] at ht
    rw [ht] at k3
    simpa using k3
  have hw : wants ((tr p).1.keep (readsX x.1)) x.1.guard = wants (tr p).1 x.1.guard := wants_congr fun t b hg => by
    refine Env.get_keep_mem _ _ _ ?_
    simp [readsX, guardT, hg]
  have hcong : ∀ hh, opRun cf ((tr p).1.keep (readsX x.1)) hh x.1.k = opRun cf (tr p).1 hh x.1.k := fun hh => opRun_congr fun t ht => Env.get_keep_mem _ _ _ (by simp [readsX, ht])
  -- where the next change stands
  have hpq : ¬ sf x = true → p ≤ q := by
    intro hnp
    rcases Nat.lt_or_ge q p with hlt | hge
    · exfalso
      have hqn : q ≠ xs.length := by omega
      obtain ⟨l1, l2⟩ := I.qb.resolve_left hqn
      have hql : q < xs.length := by omega
      have hy := List.getElem?_eq_getElem hql
      have hyo := (T.step q _ hy).2.resolve_right (fun h => h l1)
      rcases (D.pair q p _ x hlt hy hx).2 with h4 | h4 | h4
      · exact l2 ⟨_, hy, pre_ready I h4 hed⟩
      · have := D.pre_lt hx hy h4; omega
      · exact hnp (h4.2.1 (may_of T hy hyo l1))
    · exact hge
  unfold runOp at hrun
  split at hrun
  · rename_i hwt
    rw [← hw] at hwt
    rw [wants_rel k4 hE hwt, if_pos rfl]
    simp only [Option.map_eq_some_iff] at hrun
    obtain ⟨⟨v, h1⟩, hr, htr⟩ := hrun
    have e1 : (tr (p + 1)).1 = bindE x.1.dst v (tr p).1 := by rw [← htr]
    have e2 : (tr (p + 1)).2 = h1 := by rw [← htr]
    by_cases hpure : sf x = true
    · obtain ⟨p1, p2⟩ := T.soft p x hx hpure v h1 hr
      have p3 := p2 q I.qm fun s y hy hps hsq hl hpre => by
        obtain ⟨z, hz1, hz2⟩ := I.qa s hsq hl
        rw [hy] at hz1
        obtain rfl := Option.some.inj hz1
        exact hno (I.closed hpre hz2)
      refine op_sound CO k1 hE I.rep (h' := (tr q).2) (fun id a b => by omega) (by rw [hcong]; exact p3) fun β' w' c S R hv => ?_
      have hnl : ¬ loud tr p := by unfold loud; rw [e2, p1]; simp
      have hqp : q ≠ p := by
        rintro rfl
        rcases I.qb with h3 | h3
        · omega
        · exact hnl h3.1
      refine hK _ _ β' q (inv_of D CO T ht0 I hx hi hno hed S (fun _ h => h) (fun id h3 h4 => by omega) (fun id h3 h4 => by rw [e2, p1] at h4; omega) I.qm (fun r h3 h4 => .inr (I.qa r h3 h4)) ?_ R ?_ k2 hdn e1 hv)
      · rcases I.qb with h3 | h3
        · exact .inl h3
        · exact .inr ⟨h3.1, hqp, h3.2⟩
      · exact fun b hb => S.own b hb
    · have hle := hpq hpure
      obtain ⟨g, g1, pre, gl, gl1, hrg, pre2', geq⟩ : ∃ g g1 : Heap, (tr q).2.take g.length = g ∧ g.length = (tr p).2.length ∧ g1.length = h1.length ∧ opRun cf (tr p).1 g x.1.k = some (v, g1) ∧ (p < q → (tr q).2.take g1.length = g1) ∧ (q = p → g = (tr p).2 ∧ g1 = h1) := by
        by_cases hal : al x = true
        · obtain ⟨hxo, hA⟩ := T.alc p x hx hal
          obtain ⟨N, hN, hg, hst⟩ := hA v h1 hr
          have hl := tr_mono CO T hle I.qm
          have htl : ((tr q).2.take (tr p).2.length).length = (tr p).2.length := by rw [List.length_take]; omega
          refine ⟨(tr q).2.take (tr p).2.length, (tr q).2.take (tr p).2.length ++ N, by rw [htl], htl, by rw [hN, List.length_append, List.length_append, htl], hg _ htl, fun hlt => ?_, fun e => ?_⟩
          · have st := hst q hlt I.qm (by rw [← htr]) fun s y hy hps hsq hl hpre => by
              obtain ⟨z, hz1, hz2⟩ := I.qa s hsq hl
              rw [hy] at hz1
              obtain rfl := Option.some.inj hz1
              exact hno (I.closed hpre hz2)
            have hlm : h1.length ≤ (tr q).2.length := by rw [← e2]; exact tr_mono CO T (show p + 1 ≤ q by omega) I.qm
            have hl2 : ((tr q).2.take (tr p).2.length ++ N).length = h1.length := by rw [hN, List.length_append, List.length_append, htl]
            rw [hl2]
            refine List.ext_getElem? fun i => ?_
            rw [List.getElem?_take]
            by_cases hi1 : i < h1.length
            · rw [if_pos hi1]
              by_cases hi2 : i < (tr p).2.length
              · rw [List.getElem?_append_left (by rw [htl]; exact hi2), List.getElem?_take, if_pos hi2]
              · rw [st i (by omega) hi1, hN, List.getElem?_append_right (by omega), List.getElem?_append_right (by rw [htl]; omega), htl]
            · rw [if_neg hi1, List.getElem?_eq_none (by rw [hl2]; omega)]
          · exfalso
            subst e
            rcases I.qb with h3 | h3
            · omega
            · exact (hord.resolve_left (by rw [hxo]; simp)) h3.1
        · have hnoloud : ∀ r, p ≤ r → r < q → ¬ loud tr r := by
            intro r h3 h4 h5
            have h6 := I.qa r h4 h5
            by_cases e : r = p
            · subst e; exact hex h6
            · obtain ⟨y, h7, h8⟩ := h6
              have hyo := (T.step r y h7).2.resolve_right (fun h => h h5)
              rcases (D.pair p r x y (by omega) hx h7).2 with h9 | h9 | h9
              · exact hno (I.closed h9 h8)
              · have := D.pre_lt h7 hx h9; omega
              · exact (h9.2.2 (may_of T h7 hyo h5)).elim hpure hal
          exact ⟨(tr p).2, h1, tr_prefix CO T hle I.qm hnoloud, rfl, rfl, hr, fun hlt => by
            rw [← e2]
            exact tr_prefix CO T (show p + 1 ≤ q by omega) I.qm (fun r h3 h4 => hnoloud r (by omega) h4), fun _ => ⟨rfl, rfl⟩⟩
      have hfr := fresh_at D CO T ht0 hf I hx hno
      rw [e2] at hfr
      have hlm : (tr p).2.length ≤ h1.length := by rw [← e2]; exact tr_len CO T hp
      have hfr' : fresh β g g1 := fun id i1 i2 => hfr id (by omega) (by omega)
      refine op_sound CO k1 hE (rep_prefix pre I.rep) hfr' (by rw [hcong]; exact hrg) fun β' w' c S R hv => ?_
      by_cases hlt : p < q
      · -- nothing that was there has changed
        have hqp : q ≠ p := by omega
        have pre2 := pre2' hlt
        have old : ∀ id L, ¬ id < g1.length → β' id = some L → β id = some L := fun id L h3 h4 => by
          rcases S.dom id L h4 with h5 | h5
          · exact h5
          · omega
        have apartb : ∀ id L cs rw esz, ¬ id < g1.length → (tr q).2[id]? = some (.cells cs rw esz) → β id = some L → ∀ b, owned β g b → b ≠ L.b := by
          rintro id L cs rw esz h3 h4 h5 b ⟨i0, L0, cs0, esz0, g1, g2, rfl⟩
          have hi0 := (List.getElem?_eq_some_iff.1 g1).1
          refine I.rep.exc i0 id L0 L cs0 esz0 cs rw esz ?_ h4 (by omega) g2 h5
          rw [take_get pre hi0]; exact g1
        have Rq : Rep β' (tr q).2 w' := by
          refine ⟨fun id b L hg hL => ?_, fun id L cs rw esz hg hL => ?_, fun i j L M cs esz cs' rw' esz' hgi hgj hij hL hM => ?_, R.keep⟩
          · by_cases h3 : id < g1.length
            · exact R.sz id b L (by rw [← take_get pre2 h3]; exact hg) hL
            · exact I.rep.sz id b L hg (old id L h3 hL)
          · by_cases h3 : id < g1.length
            · exact R.blk id L cs rw esz (by rw [← take_get pre2 h3]; exact hg) hL
            · have h4 := old id L h3 hL
              have B := I.rep.blk id L cs rw esz hg h4
              exact B.mono S.ext (S.frame L.b B.lt fun ho => apartb id L cs rw esz h3 hg h4 _ ho rfl)
          · by_cases h3 : i < g1.length
            · by_cases h4 : j < g1.length
              · exact R.exc i j L M cs esz cs' rw' esz' (by rw [← take_get pre2 h3]; exact hgi) (by rw [← take_get pre2 h4]; exact hgj) hij hL hM
              · have h5 := old j M h4 hM
                cases hb : β i with
                | some N =>
                  have := S.ext _ _ hb
                  rw [hL] at this; simp at this; subst this
                  exact I.rep.exc i j L M cs esz cs' rw' esz' hgi hgj hij hb h5
                | none =>
                  have B := (I.rep.blk j M cs' rw' esz' hgj h5).lt
                  rcases S.new i L hL hb with h6 | h6
                  · omega
                  · exact apartb j M cs' rw' esz' h4 hgj h5 _ h6
            · have h5 := old i L h3 hL
              by_cases h4 : j < g1.length
              · cases hb : β j with
                | some N =>
                  have := S.ext _ _ hb
                  rw [hM] at this; simp at this; subst this
                  exact I.rep.exc i j L M cs esz cs' rw' esz' hgi hgj hij h5 hb
                | none =>
                  have B := (I.rep.blk i L cs true esz hgi h5).lt
                  rcases S.new j M hM hb with h6 | h6
                  · omega
                  · exact Ne.symm (apartb i L cs true esz h3 hgi h5 _ h6)
              · exact I.rep.exc i j L M cs esz cs' rw' esz' hgi hgj hij h5 (old j M h4 hM)
        refine hK _ _ β' q (inv_of D CO T ht0 I hx hi hno hed S (fun b hb => owned_prefix pre hb) (fun id h3 h4 => by rw [e2]; omega) (fun id h3 h4 => S.full id (by omega) (by rw [gl1, ← e2]; exact h4)) I.qm (fun r h3 h4 => .inr (I.qa r h3 h4)) ?_ Rq ?_ k2 hdn e1 hv)
        · rcases I.qb with h3 | h3
          · exact .inl h3
          · exact .inr ⟨h3.1, hqp, h3.2⟩
        · rintro b ⟨id, L, cs, esz, hg, hL, rfl⟩
          by_cases h3 : id < g1.length
          · rcases S.own L.b ⟨id, L, cs, esz, by rw [← take_get pre2 h3]; exact hg, hL, rfl⟩ with h4 | h4
            · exact .inl h4
            · exact .inr (owned_prefix pre h4)
          · exact .inr ⟨id, L, cs, esz, hg, old id L h3 hL, rfl⟩
      · -- this is the next change
        have hqp : q = p := by omega
        subst hqp
        obtain ⟨rfl, eh⟩ := geq rfl
        have eh' := eh.symm
        subst eh'
        obtain ⟨l1, -⟩ := I.qb.resolve_left (by omega)
        have hxo := hord.resolve_right (fun h => h l1)
        have others : ∀ (r : Nat) (y : XOp), q < r → xs[r]? = some y → ¬ sf y = true → ¬ lit listed y.2.1 := by
          intro r y h3 h4 h5 h6
          rcases (D.pair q r x y h3 hx h4).2 with h9 | h9 | h9
          · exact hno (I.closed h9 h6)
          · have := D.pre_lt h4 hx h9; omega
          · exact h5 (h9.2.1 (may_of T hx hxo l1))
        obtain ⟨q', n1, n2, n3, n4⟩ := next_loud tr xs.length _ (q + 1) rfl (by omega)
        have pre2 : (tr q').2.take h1.length = h1 := by
          rw [← e2]
          exact tr_prefix CO T n1 n2 n3
        have only : ∀ (id : Nat) (L : Loc) (b : Blk), (tr q').2[id]? = some b → β' id = some L → id < h1.length := by
          intro id L b hg hL
          apply Classical.byContradiction
          intro h3
          rcases S.dom id L hL with h5 | h5
          · rcases I.dom id L h5 with h6 | ⟨r, ⟨y, h6, h7⟩, h8, h9⟩
            · have e3 := (List.getElem?_eq_some_iff.1 hg).1
              have e4 := tr_mono CO T n2 (Nat.le_refl _)
              have e5 := tr_mono CO T (show 0 ≤ q by omega) (by omega)
              rw [ht0] at e5
              rw [hf id (by omega) (by omega)] at h6
              simp at h6
            · have hr : r < xs.length := (List.getElem?_eq_some_iff.1 h6).1
              have hqr : q < r := by
                rcases Nat.lt_or_ge q r with h | h
                · exact h
                · exfalso
                  have := tr_mono CO T (show r + 1 ≤ q + 1 by omega) (by omega)
                  rw [e2] at this
                  omega
              refine others r y hqr h6 (fun hpu => ?_) h7
              rw [pure_same T h6 hpu] at h9
              omega
          · omega
        have Rq : Rep β' (tr q').2 w' := by
          refine ⟨fun id b L hg hL => ?_, fun id L cs rw esz hg hL => ?_, fun i j L M cs esz cs' rw' esz' hgi hgj hij hL hM => ?_, R.keep⟩
          · exact R.sz id b L (by rw [← take_get pre2 (only _ _ _ hg hL)]; exact hg) hL
          · exact R.blk id L cs rw esz (by rw [← take_get pre2 (only _ _ _ hg hL)]; exact hg) hL
          · exact R.exc i j L M cs esz cs' rw' esz' (by rw [← take_get pre2 (only _ _ _ hgi hL)]; exact hgi) (by rw [← take_get pre2 (only _ _ _ hgj hM)]; exact hgj) hij hL hM
        refine hK _ _ β' q' (inv_of D CO T ht0 I hx hi hno hed S (fun b hb => hb) (fun id h3 h4 => by rw [e2]; exact ⟨h3, h4⟩) (fun id h3 h4 => S.full id h3 (by rw [← e2]; exact h4)) n2 (fun r h3 h4 => ?_) ?_ Rq ?_ k2 hdn e1 hv)
        · rcases Nat.lt_trichotomy r q with h5 | h5 | h5
          · exact .inr (I.qa r h5 h4)
          · exact .inl h5
          · exact absurd h4 (n3 r (by omega) h3)
        · rcases n4 with h3 | h3
          · exact .inl h3
          · refine .inr ⟨h3, by omega, fun ⟨y, h4, h5⟩ => others q' y (by omega) h4 (fun hpu => h3 ?_) h5⟩
            rw [pure_same T h4 hpu]; simp
        · rintro b ⟨id, L, cs, esz, hg, hL, rfl⟩
          exact S.own L.b ⟨id, L, cs, esz, by rw [← take_get pre2 (only _ _ _ hg hL)]; exact hg, hL, rfl⟩
  · rename_i hwt
    rw [← hw] at hwt
    rw [wants_rel k4 hE hwt]
    simp only [Bool.false_eq_true, if_false]
    simp only [Option.some.injEq] at hrun
    have e1 : (tr (p + 1)).1 = bindE x.1.dst (some (.tup [])) (tr p).1 := by rw [← hrun]
    have e2 : (tr (p + 1)).2 = (tr p).2 := by rw [← hrun]
    have hnl : ¬ loud tr p := by unfold loud; rw [e2]; simp
    have hqp : q ≠ p := by
      rintro rfl
      rcases I.qb with h3 | h3
      · omega
      · exact hnl h3.1
    refine hK _ _ β q (inv_of D CO T ht0 I hx hi hno hed (Stp.refl β (tr q).2 w) (fun _ h => h) (fun id h3 h4 => by omega) (fun id h3 h4 => by rw [e2] at h4; omega) I.qm (fun r h3 h4 => .inr (I.qa r h3 h4)) ?_ I.rep (fun b hb => .inr hb) k2 hdn e1 (fun u hu => by cases hu; exact .tup .nil))
    rcases I.qb with h3 | h3
    · exact .inl h3
    · exact .inr ⟨h3.1, hqp, h3.2⟩
  · simp at hrun

/-- How many are still to come. -/
def todo (xs : List XOp) (listed : Array Bool) : Nat := xs.countP fun x => !listed.getD x.2.1 false

theorem countP_lt {α : Type} {f g : α → Bool} : ∀ {l : List α}, (∀ x ∈ l, g x = true → f x = true) → (∃ x ∈ l, f x = true ∧ g x = false) → l.countP g < l.countP f
  | [], _, h => by obtain ⟨x, hx, _⟩ := h; simp at hx
  | y :: l, h1, h2 => by
    have hle : l.countP g ≤ l.countP f := List.countP_mono_left fun x hx hg => h1 x (by simp [hx]) hg
    obtain ⟨x, hx, hf, hg⟩ := h2
    simp only [List.mem_cons] at hx
    rcases hx with rfl | hx
    · rw [List.countP_cons_of_pos hf, List.countP_cons_of_neg (by simp [hg])]; omega
    · have ih := countP_lt (l := l) (fun x hx => h1 x (by simp [hx])) ⟨x, hx, hf, hg⟩
      by_cases hgy : g y = true
      · rw [List.countP_cons_of_pos hgy, List.countP_cons_of_pos (h1 y (by simp) hgy)]; omega
      · rw [List.countP_cons_of_neg hgy]
        have : l.countP f ≤ (y :: l).countP f := by rw [List.countP_cons]; omega
        omega

theorem all_done (D : DS sf al P n os xs) (I : Inv os xs tr n β0 h0 w0 ds listed a w β q) (hr : Region.ready .any os listed = []) : ∀ (p : Nat) (x : XOp), xs[p]? = some x → lit listed x.2.1 := by
  intro p
  induction p using Nat.strongRecOn with
  | _ p ih =>
    intro x hx
    apply Classical.byContradiction
    intro hno
    obtain ⟨o, ho, -⟩ := D.mat p x hx
    have : x.2.1 ∈ Region.ready .any os listed := by
      rw [mem_ready]
      refine ⟨?_, o, ho, fun e he hb => ?_⟩
      · have hlt : x.2.1 < listed.size := by rw [I.lsz]; exact (Array.getElem?_eq_some_iff.1 ho).1
        unfold lit at hno
        simp [hlt] at hno ⊢
        exact hno
      · have hed : e.on ∈ edgesOf os x.2.1 := by
          simp only [edgesOf, ho, List.mem_map, List.mem_filter]
          exact ⟨e, ⟨by simpa using he, hb⟩, rfl⟩
        obtain ⟨r, y, h1, h2, h3⟩ := D.top p x _ hx hed
        rw [← h3]
        exact ih r h1 y h2
    rw [hr] at this
    simp at this

theorem any_sound (D : DS sf al P n os xs) (CO : CallOK P cf) (T : TR os sf al cf xs tr) (ht0 : (tr 0).2 = h0) (hf : fresh β0 h0 (tr xs.length).2) {Q : Exit → Act → World → Prop}
    (hQ : ∀ a' w' β' listed', Inv os xs tr n β0 h0 w0 ds listed' a' w' β' xs.length → (∀ (p : Nat) (x : XOp), xs[p]? = some x → lit listed' x.2.1) → Q .normal a' w') :
    ∀ (fuel : Nat) (listed : Array Bool) (a : Act) (w : World) (β : Bt) (q : Nat), todo xs listed ≤ fuel → Inv os xs tr n β0 h0 w0 ds listed a w β q → wpAny P .any os Q fuel listed a w := by
  have fin : ∀ (listed : Array Bool) (a : Act) (w : World) (β : Bt) (q : Nat), Inv os xs tr n β0 h0 w0 ds listed a w β q → (∀ (p : Nat) (x : XOp), xs[p]? = some x → lit listed x.2.1) → Q .normal a w := by
    intro listed a w β q I hall
    have hq : q = xs.length := by
      rcases I.qb with h | h
      · exact h
      · rcases Nat.lt_or_ge q xs.length with hl | hl
        · have hy := List.getElem?_eq_getElem hl
          exact absurd ⟨_, hy, hall q _ hy⟩ h.2
        · have := I.qm
          omega
    subst hq
    exact hQ a w β listed I hall
  intro fuel
  induction fuel with
  | zero =>
    intro listed a w β q hc I
    have hall : ∀ (p : Nat) (x : XOp), xs[p]? = some x → lit listed x.2.1 := by
      intro p x hx
      have h0 : todo xs listed = 0 := by omega
      unfold todo at h0
      rw [List.countP_eq_zero] at h0
      have := h0 x (List.mem_of_getElem? hx)
      unfold lit
      simpa using this
    refine ⟨?_, fin _ _ _ _ _ I hall⟩
    apply List.eq_nil_iff_forall_not_mem.2
    intro i hi
    rw [mem_ready] at hi
    obtain ⟨h1, o, ho, -⟩ := hi
    obtain ⟨p, x, hx, rfl⟩ := D.sur i o ho
    have h2 := hall p x hx
    unfold lit at h2
    have hlt : x.2.1 < listed.size := by rw [I.lsz]; exact (Array.getElem?_eq_some_iff.1 ho).1
    simp [hlt] at h1 h2
    rw [h1] at h2
    simp at h2
  | succ fuel ih =>
    intro listed a w β q hc I
    refine ⟨fun hr => fin _ _ _ _ _ I (all_done D I hr), fun i hi => ?_⟩
    rw [mem_ready] at hi
    obtain ⟨h1, o, ho, hall⟩ := hi
    obtain ⟨p, x, hx, rfl⟩ := D.sur i o ho
    have hlt : x.2.1 < listed.size := by rw [I.lsz]; exact (Array.getElem?_eq_some_iff.1 ho).1
    have hno : ¬ lit listed x.2.1 := by
      unfold lit
      simp [hlt] at h1 ⊢
      exact h1
    obtain ⟨o', ho', hok⟩ := D.mat p x hx
    rw [ho] at ho'
    simp at ho'
    subst ho'
    have hed : ∀ k ∈ edgesOf os x.2.1, lit listed k := by
      intro k hk
      simp only [edgesOf, ho, List.mem_map, List.mem_filter] at hk
      obtain ⟨e, ⟨he, hb⟩, rfl⟩ := hk
      exact hall e (by simpa using he) hb
    unfold wpOp
    simp only [ho]
    have hstep := inv_step D CO T ht0 hf I hx ho hok hno hed (K := wpAny P .any os Q fuel (listed.setIfInBounds x.2.1 true)) (Q := Q) (fun a' w' β' q' I' => ih _ a' w' β' q' (by
      have hlt2 : todo xs (listed.setIfInBounds x.2.1 true) < todo xs listed := by
        unfold todo
        refine countP_lt (fun y hy hg => ?_) ⟨x, List.mem_of_getElem? hx, ?_, ?_⟩
        · simp only [Bool.not_eq_true'] at hg ⊢
          cases hb : listed.getD y.2.1 false with
          | false => rfl
          | true =>
            have : lit (listed.setIfInBounds x.2.1 true) y.2.1 := (lit_set hlt).2 (.inr hb)
            unfold lit at this
            rw [this] at hg; simp at hg
        · unfold lit at hno
          simpa using hno
        · have : lit (listed.setIfInBounds x.2.1 true) x.2.1 := (lit_set hlt).2 (.inl rfl)
          unfold lit at this
          rw [this]; rfl
      omega) I')
    split
    · rename_i hw
      rw [if_pos hw] at hstep
      exact .inl hstep
    · rename_i hw
      rw [if_neg hw] at hstep
      exact hstep

theorem regT_sound {β : Bt} {E : Env} {h : Heap} {w : World} {a : Act} {E' : Env} {h' : Heap} {id : Nat} (hm : P.follows .mixedOrders = true) (CO : CallOK P cf) (hok : okD sf al P n os xs = true) (hn : a.tmps.size = n) (hE : ERel β E a.tmps) (R : Rep β h w) (hf : fresh β h h')
    (T : TR os sf al cf xs tr) (t1 : tr 0 = (E, h)) (t2 : tr xs.length = (E', h')) {Q : Exit → Act → World → Prop}
    (hK : ∀ β' w' a', Stp β h w β' h' w' → Rep β' h' w' → ERel β' E' a'.tmps → a'.tmps.size = n → a'.defers = a.defers → Q .normal a' w') : (Code.region id os true).wp P Q a w := by
  have D := okD_spec hok
  have ht0 : (tr 0).2 = h := by rw [t1]
  have hte : (tr xs.length).2 = h' := by rw [t2]
  refine wp_region_any hm ?_
  have hempty : ∀ i, ¬ lit (Array.replicate os.size false) i := by
    intro i hi
    unfold lit at hi
    rcases Nat.lt_or_ge i os.size with h1 | h1
    · simp [h1] at hi
    · simp [h1] at hi
  obtain ⟨q0, n1, n2, n3, n4⟩ := next_loud tr xs.length _ 0 rfl (Nat.zero_le _)
  have pre := tr_prefix CO T n1 n2 n3
  rw [ht0] at pre
  have I0 : Inv os xs tr n β h { w with drawn := w.drawn + 1 } a.defers (Array.replicate os.size false) a { w with drawn := w.drawn + 1 } β q0 := by
    have only : ∀ (id : Nat) (L : Loc) (b : Blk), (tr q0).2[id]? = some b → β id = some L → id < h.length := by
      intro i L b hg hL
      apply Classical.byContradiction
      intro h3
      have e3 := (List.getElem?_eq_some_iff.1 hg).1
      have e4 := tr_mono CO T n2 (Nat.le_refl _)
      rw [hte] at e4
      rw [hf i (by omega) (by omega)] at hL
      simp at hL
    have R' := R.drawn (w.drawn + 1)
    refine { lsz := by simp, cl := fun i j _ hj => absurd hj (hempty j), n := hn, ds := rfl, qm := n2, qa := fun p hp hl => absurd hl (n3 p (Nat.zero_le _) hp), qb := ?_, rep := ?_, dom := fun i L hL => .inl hL, full := fun p ⟨y, h1, h2⟩ => absurd h2 (hempty _), ext := fun _ _ h => h, own := ?_, new := fun i L h1 h2 => by rw [h1] at h2; simp at h2, frame := fun _ _ _ => rfl, size := Nat.le_refl _, os := rfl, tape := rfl, output := rfl, env := ?_ }
    · rcases n4 with h1 | h1
      · exact .inl h1
      · exact .inr ⟨h1, fun ⟨y, h2, h3⟩ => hempty _ h3⟩
    · refine ⟨fun i b L hg hL => ?_, fun i L cs rw esz hg hL => ?_, fun i j L M cs esz cs' rw' esz' hgi hgj hij hL hM => ?_, R'.keep⟩
      · exact R'.sz i b L (by rw [← take_get pre (only _ _ _ hg hL)]; exact hg) hL
      · exact R'.blk i L cs rw esz (by rw [← take_get pre (only _ _ _ hg hL)]; exact hg) hL
      · exact R'.exc i j L M cs esz cs' rw' esz' (by rw [← take_get pre (only _ _ _ hgi hL)]; exact hgi) (by rw [← take_get pre (only _ _ _ hgj hM)]; exact hgj) hij hL hM
    · rintro b ⟨i, L, cs, esz, hg, hL, rfl⟩
      exact .inr ⟨i, L, cs, esz, by rw [← take_get pre (only _ _ _ hg hL)]; exact hg, hL, rfl⟩
    · intro p' hp' t hA hB v hget
      -- nothing is executed: no writer before p'
      have hconst : ∀ k, k ≤ p' → (tr k).1.get t = (tr 0).1.get t := by
        intro k
        induction k with
        | zero => intro _; rfl
        | succ k ih =>
          intro hk
          have hr : k < xs.length := by omega
          have hy := List.getElem?_eq_getElem hr
          obtain ⟨u, hu⟩ := runOp_env (T.step _ _ hy).1
          rw [hu, bindE_get, if_neg (fun hd => hempty _ (hA k _ (by omega) hy hd))]
          exact ih (by omega)
      rw [hconst p' (Nat.le_refl _), t1] at hget
      exact hE t v hget
  refine any_sound D CO T ht0 (by rw [hte]; exact hf) (fun a' w' β' listed' I hall => ?_) os.size _ a _ β q0 ?_ I0
  · have I' := I.rep
    rw [hte] at I'
    have hlen : h.length ≤ h'.length := by
      have := tr_mono CO T (Nat.zero_le xs.length) (Nat.le_refl _)
      rwa [ht0, hte] at this
    refine hK β' w' a' ⟨I.ext, fun i L hL => ?_, fun i h1 h2 => ?_, hlen, fun b hb => I.own b (by rw [hte]; exact hb), I.new, I.frame, I.size, I.os, I.tape, I.output⟩ I' ?_ I.n I.ds
    · rcases I.dom i L hL with h1 | ⟨r, h1, h2, h3⟩
      · exact .inl h1
      · obtain ⟨y, h4, -⟩ := h1
        have hr : r < xs.length := (List.getElem?_eq_some_iff.1 h4).1
        have e1 := tr_mono CO T (show 0 ≤ r by omega) (by omega)
        have e2 := tr_mono CO T (show r + 1 ≤ xs.length by omega) (Nat.le_refl _)
        rw [ht0] at e1
        rw [hte] at e2
        exact .inr ⟨by omega, by omega⟩
    · -- which one laid it?
      have : ∀ k, k ≤ xs.length → i < (tr k).2.length → ∃ r, r < k ∧ (tr r).2.length ≤ i ∧ i < (tr (r + 1)).2.length := by
        intro k
        induction k with
        | zero => intro _ h3; rw [ht0] at h3; omega
        | succ k ih =>
          intro h3 h4
          by_cases h5 : i < (tr k).2.length
          · obtain ⟨r, h6, h7⟩ := ih (by omega) h5
            exact ⟨r, by omega, h7⟩
          · exact ⟨k, by omega, by omega, h4⟩
      obtain ⟨r, h3, h4, h5⟩ := this xs.length (Nat.le_refl _) (by rw [hte]; exact h2)
      have hy := List.getElem?_eq_getElem h3
      exact I.full r ⟨_, hy, hall r _ hy⟩ i h4 h5
    · intro t v hget
      refine I.env xs.length (Nat.le_refl _) t (fun r y _ hy _ => hall r y hy) (fun r y hr hy _ => ?_) v (by rw [t2]; exact hget)
      have := (List.getElem?_eq_some_iff.1 hy).1
      omega
  · unfold todo
    rw [← D.len]
    exact List.countP_le_length

theorem regd_sound {β : Bt} {E : Env} {h : Heap} {w : World} {a : Act} {E' : Env} {h' : Heap} {id : Nat} (hm : P.follows .mixedOrders = true) (CO : CallOK P cf) (hok : okD (sfM xs) alN P n os xs = true) (hM : okM os xs = true) (hn : a.tmps.size = n) (hE : ERel β E a.tmps) (R : Rep β h w) (hf : fresh β h h')
    (hs : runOpsD cf (xs.map fun p => (p.1, p.2.2)) E h = some (E', h')) {Q : Exit → Act → World → Prop}
    (hK : ∀ β' w' a', Stp β h w β' h' w' → Rep β' h' w' → ERel β' E' a'.tmps → a'.tmps.size = n → a'.defers = a.defers → Q .normal a' w') : (Code.region id os true).wp P Q a w := by
  obtain ⟨tr, t1, t2, t3⟩ := trace hs
  exact regT_sound hm CO hok hn hE R hf (TR.pure (P := P) (n := n) hM fun p x hx => ⟨(t3 p x hx).1, (t3 p x hx).2.imp (fun h => h) (fun h => Classical.not_not.2 h)⟩) t1 t2 hK
theorem regs_sound {β : Bt} {E : Env} {h : Heap} {w : World} {a : Act} {E' : Env} {h' : Heap} {id : Nat} {S A fr : List Nat} (hm : P.follows .mixedOrders = true) (CO : CallOK P cf) (hok : okD softX (alX fr) P n os xs = true) (hfr : okFree os xs fr = true) (hn : a.tmps.size = n) (hE : ERel β E a.tmps) (R : Rep β h w) (hf : fresh β h h')
    (hs : runOpsS cf S A fr xs E h = some (E', h')) (hA : ∀ id ∈ alIds cf fr xs E h, id ∈ A) {Q : Exit → Act → World → Prop}
    (hK : ∀ β' w' a', Stp β h w β' h' w' → Rep β' h' w' → ERel β' E' a'.tmps → a'.tmps.size = n → a'.defers = a.defers → Q .normal a' w') : (Code.region id os true).wp P Q a w := by
  obtain ⟨tr, t1, t2, t3⟩ := traceS hs hA
  exact regT_sound hm CO hok hn hE R hf (TR.loads CO (okD_spec hok) (okFree_spec hfr).1 (okFree_spec hfr).2 t3) t1 t2 hK

end
end Go.Ab

