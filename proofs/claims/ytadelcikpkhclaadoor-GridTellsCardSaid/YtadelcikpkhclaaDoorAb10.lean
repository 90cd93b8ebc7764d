/- Code: what is reckoned here is what the model does. -/
import Derived.Test.YtadelcikpkhclaaDoorAb9
import Derived.Orders
namespace Go.Ab
set_option linter.unusedVariables false
variable {P : Program} {β : Bt} {E : Env} {h : Heap} {w : World} {a : Act}

theorem step1_sound {k : AK} {o : Oper} {v : Option AV} {h' : Heap} (hok : okOp P k o.op = true) (hE : ERel β E a.tmps) (R : Rep β h w) (hf : fresh β h h')
    (hs : step1 E h k = some (v, h')) : Out1 β h w ((execOp a.eval o).run P w) v h' := by
  cases k with
  | mv x => exact s_mv hok hE R hs
  | pick c x y => exact s_pick hok hE R hs
  | bin op x y => exact s_bin hok hE R hs
  | beq neg x y => exact s_beq hok hE R hs
  | isnil kd neg x => exact s_isnil hok hE R hs
  | un op x => exact s_un hok hE R hs
  | conv k x => exact s_conv hok hE R hs
  | len str x => exact s_len hok hE R hs
  | mm mx x ys => exact s_mm hok hE R hs
  | idxA esz x i => exact s_idxA hok hE R hs
  | idxP n esz x i => exact s_idxP hok hE R hs
  | idxS x i => exact s_idxS hok hE R hs
  | idxG n esz agg x i => exact s_idxG hok hE R hs
  | fldA off x => exact s_fldA hok hE R hs
  | fld off size agg x => exact s_fld hok hE R hs
  | ld n agg x => exact s_ld hok hE R hs
  | st n y x => exact s_st hok hE R hs
  | new zero => exact s_new hok hE R hf hs
  | box x => exact s_box hok hE R hf hs
  | bld zero parts => exact s_bld hok hE R hs
  | bsl esz zero len parts => exact s_bsl hok hE R hf hs
  | mk esz bytes zero l c => exact s_mk hok hE R hf hs
  | sl esz x lo hi => exact s_sl hok hE R hs
  | slS x lo hi => exact s_slS hok hE R hs
  | app esz bytes zero x y => exact s_app hok hE R hf hs
  | newT t zero => exact s_newT hok hE R hf hs
  | aeq neg n x y => exact s_aeq hok hE R hs
  | peq neg x y => exact s_peq hok hE R hs
  | sl1 x lo hi => exact s_sl1 hok hE R hs
  | usd x => exact s_usd hok hE R hs
  | ustr t x n => exact s_ustr hok hE R hs
  | bad => simp [step1] at hs
  | call f args => simp [step1] at hs
  | callv x args => simp [step1] at hs
  | ext x i => exact s_ext hok hE R hs
  | mkf f caps => exact s_mkf hok hE R hs
  | nilc x => exact s_nilc hok hE R hs

theorem writeN_len {h h' : Heap} {id off : Nat} {vs : List SV} (hw : writeN h id off vs = some h') : h'.length = h.length := by
  unfold writeN at hw
  split at hw
  · split at hw
    · simp at hw; subst hw; simp
    · simp at hw
  · simp at hw

theorem appS_len {h h' : Heap} {esz : ESz} {bytes m : Nat} {s s' : SV} {vs : List SV} (hs : appS h esz bytes s m vs = some (s', h')) : h.length ≤ h'.length := by
  unfold appS at hs
  split at hs
  · split at hs
    · simp at hs; rw [← hs.2]; exact Nat.le_refl _
    · split at hs
      · simp at hs; rw [← hs.2]; simp
      · simp at hs
  · split at hs
    · simp at hs; rw [← hs.2]; exact Nat.le_refl _
    · split at hs
      · split at hs
        · split at hs
          · split at hs
            · split at hs
              · split at hs
                · simp at hs; rw [← hs.2]; simp
                · simp only [Option.map_eq_some_iff, Prod.mk.injEq] at hs
                  obtain ⟨h1, hw, _, rfl⟩ := hs
                  exact Nat.le_of_eq (writeN_len hw).symm
              · split at hs
                · simp at hs; rw [← hs.2]; simp
                · simp at hs
            · simp at hs
          · simp at hs
        · simp at hs
      · simp at hs
  · simp at hs

theorem step1_len {k : AK} {v : Option AV} {h' : Heap} (hs : step1 E h k = some (v, h')) : h.length ≤ h'.length := by
  cases k <;> simp only [step1, Option.bind_eq_some_iff, Option.map_eq_some_iff, Prod.mk.injEq] at hs
  case st n y x =>
    split at hs
    · simp only [Option.bind_eq_some_iff] at hs
      obtain ⟨u, hu, vs, hvs, hs⟩ := hs
      split at hs
      · simp only [Option.map_eq_some_iff, Prod.mk.injEq] at hs
        obtain ⟨h1, hw, _, rfl⟩ := hs
        exact Nat.le_of_eq (writeN_len hw).symm
      · simp at hs
    · simp at hs
  case app esz bytes zero x y =>
    obtain ⟨s, hps, t', hpt, p, hsrc, r, happ, rfl, rfl⟩ := hs
    exact appS_len happ
  case new zero => simp at hs; rw [← hs.2]; simp
  case newT t zero => simp at hs; rw [← hs.2]; simp
  case bad => simp at hs
  case usd x =>
    split at hs
    · split at hs
      · simp only [Option.some.injEq, Prod.mk.injEq] at hs; rw [hs.2]; exact Nat.le_refl _
      · simp at hs
    · simp only [Option.some.injEq, Prod.mk.injEq] at hs; rw [hs.2]; exact Nat.le_refl _
    · simp at hs
  case ustr t x n =>
    split at hs
    · split at hs
      · split at hs
        · simp only [Option.bind_eq_some_iff, Option.map_eq_some_iff, Prod.mk.injEq] at hs
          obtain ⟨_, _, _, _, _, rfl⟩ := hs; simp
        · simp at hs
      · simp at hs
    · split at hs
      · simp only [Option.some.injEq, Prod.mk.injEq] at hs; rw [hs.2]; exact Nat.le_refl _
      · simp at hs
    · simp at hs
  case aeq neg n x y =>
    split at hs
    · split at hs
      · simp only [Option.map_eq_some_iff, Prod.mk.injEq] at hs
        obtain ⟨_, _, _, rfl⟩ := hs; exact Nat.le_refl _
      · simp at hs
    · simp at hs
  case box x =>
    obtain ⟨u, hu, cs, hc, rfl, rfl⟩ := hs; simp
  case bsl esz zero len parts =>
    split at hs
    · simp only [Option.bind_eq_some_iff, Option.map_eq_some_iff, Prod.mk.injEq] at hs
      obtain ⟨ps, hps, cs, hfill, rfl, rfl⟩ := hs; simp
    · simp at hs
  case mk esz bytes zero l c =>
    split at hs
    · split at hs
      · simp at hs; rw [← hs.2]; simp
      · simp at hs
    · simp at hs
  case call => simp at hs
  case callv => simp at hs
  case pick c x y =>
    split at hs
    · split at hs
      · simp only [Option.map_eq_some_iff, Prod.mk.injEq] at hs
        obtain ⟨_, _, _, rfl⟩ := hs; exact Nat.le_refl _
      · simp only [Option.map_eq_some_iff, Prod.mk.injEq] at hs
        obtain ⟨_, _, _, rfl⟩ := hs; exact Nat.le_refl _
    · simp at hs
  case idxS x i =>
    split at hs
    · split at hs
      · simp only [Option.map_eq_some_iff, Prod.mk.injEq] at hs
        obtain ⟨_, _, _, rfl⟩ := hs; exact Nat.le_refl _
      · simp at hs
    · simp at hs
  case idxG n esz agg x i =>
    split at hs
    · split at hs
      · simp only [Option.bind_eq_some_iff, Option.map_eq_some_iff, Prod.mk.injEq] at hs
        obtain ⟨_, _, _, _, _, rfl⟩ := hs; exact Nat.le_refl _
      · simp at hs
    · simp at hs
  case fld off size agg x =>
    split at hs
    · simp only [Option.bind_eq_some_iff, Option.map_eq_some_iff, Prod.mk.injEq] at hs
      obtain ⟨_, _, _, _, _, rfl⟩ := hs; exact Nat.le_refl _
    · simp at hs
  case ld n agg x =>
    split at hs
    · simp only [Option.bind_eq_some_iff, Option.map_eq_some_iff, Prod.mk.injEq] at hs
      obtain ⟨_, _, _, _, _, rfl⟩ := hs; exact Nat.le_refl _
    · simp at hs
  case fldA off x =>
    split at hs
    · simp only [Option.some.injEq, Prod.mk.injEq] at hs; rw [hs.2]; exact Nat.le_refl _
    · simp at hs
  case nilc x =>
    split at hs
    · simp only [Option.some.injEq, Prod.mk.injEq] at hs; rw [hs.2]; exact Nat.le_refl _
    · simp only [Option.some.injEq, Prod.mk.injEq] at hs; rw [hs.2]; exact Nat.le_refl _
    · simp at hs
  case slS x lo hi =>
    split at hs
    · simp only [Option.bind_eq_some_iff] at hs
      obtain ⟨l, hl, u, hu', hs⟩ := hs
      split at hs
      · simp only [Option.some.injEq, Prod.mk.injEq] at hs; rw [hs.2]; exact Nat.le_refl _
      · simp at hs
    · simp at hs
  all_goals apply Nat.le_of_eq
  all_goals first
    | (obtain ⟨u, _, _, rfl⟩ := hs; rfl)
    | (obtain ⟨u, _, v, _, _, rfl⟩ := hs; rfl)
    | (obtain ⟨u, _, v, _, x, _, _, rfl⟩ := hs; rfl)
    | (obtain ⟨u, _, v, _, x, _, y, _, _, rfl⟩ := hs; rfl)
    | (obtain ⟨u, _, v, _, x, _, y, _, z, _, _, rfl⟩ := hs; rfl)
    | (split at hs <;> first | (simp at hs; done) | (simp at hs; rw [hs.2]; done) | (simp at hs; obtain ⟨_, _, _, rfl⟩ := hs; rfl) | skip)


/-- Calls. -/
structure CallOK (P : Program) (cf : CF) : Prop where
  len : ∀ f args h v h', cf f args h = some (v, h') → h.length ≤ h'.length
  fn : ∀ f args h r, cf f args h = some r → fnIs P f = true
  run : ∀ f args h v h', cf f args h = some (v, h') → ∀ β w vs, F2 (ARel β) args vs → Rep β h w → fresh β h h' →
    Calls P f vs.toArray w fun e w' => ∃ β' c, e = .returned c ∧ ARel β' v c ∧ Stp β h w β' h' w' ∧ Rep β' h' w'

theorem callFunc_run {f : FuncId} (hf : fnIs P f = true) (args : Array Value) (w : World) : (callFunc f args).run P w = .ok (.enter f args) w := by
  unfold fnIs at hf
  split at hf
  · rename_i fn hfn
    simp at hf
    obtain ⟨h1, h2⟩ := hf
    simp [callFunc, hfn, h2]
    intro hb
    simp [hb] at h1
  · simp at hf

theorem opRun_len {cf : CF} (CO : CallOK P cf) {k : AK} {v : Option AV} {h' : Heap} (hs : opRun cf E h k = some (v, h')) : h.length ≤ h'.length := by
  unfold opRun at hs
  split at hs
  · simp only [Option.bind_eq_some_iff, Option.map_eq_some_iff, Prod.mk.injEq] at hs
    obtain ⟨vs, _, ⟨r, h1⟩, hr, _, rfl⟩ := hs
    exact CO.len _ _ _ _ _ hr
  · split at hs
    · simp only [Option.bind_eq_some_iff, Option.map_eq_some_iff, Prod.mk.injEq] at hs
      obtain ⟨vs, _, ⟨r, h1⟩, hr, _, rfl⟩ := hs
      exact CO.len _ _ _ _ _ hr
    · simp at hs
  · exact step1_len hs

theorem caps_av {caps : List (Nat × Nat)} {vs : List Value} (h : F2 (CapR β) caps vs) : F2 (ARel β) (caps.map fun p => AV.sc (.ptr p.1 p.2)) vs := by
  induction h with
  | nil => exact .nil
  | cons a _ ih =>
    obtain ⟨L, h1, rfl⟩ := a
    exact .cons (.sc (.ptr h1)) ih

/-- One operation, whatever follows. -/
theorem op_sound {cf : CF} (CO : CallOK P cf) {k : AK} {o : Oper} {v : Option AV} {h' : Heap} (hok : okOp P k o.op = true) (hE : ERel β E a.tmps) (R : Rep β h w) (hf : fresh β h h')
    (hs : opRun cf E h k = some (v, h')) {K : Act → World → Prop} {Q : Exit → Act → World → Prop}
    (hK : ∀ β' w' c, Stp β h w β' h' w' → Rep β' h' w' → (∀ u, v = some u → ARel β' u c) → K (a.put o.dst c) w') : o.wp P a w K Q := by
  have call : ∀ (f : FuncId) (args : List AV) (vs : List Value), (execOp a.eval o).run P w = .ok (.enter f vs.toArray) w → F2 (ARel β) args vs →
      (∃ r, cf f args h = some (r, h') ∧ v = some r) → o.wp P a w K Q := by
    intro f args vs hrun hr ⟨r, hc, hv⟩
    unfold Oper.wp
    rw [hrun, Oper.upon_enter]
    refine (CO.run f args h r h' hc β w vs hr R hf).mono ?_
    rintro e w' ⟨β', c, rfl, h1, h2, h3⟩
    exact hK β' w' c h2 h3 (fun u hu => by rw [hv] at hu; simp at hu; subst hu; exact h1)
  cases hk : k
  case call f args =>
    subst hk
    simp only [opRun, Option.bind_eq_some_iff, Option.map_eq_some_iff, Prod.mk.injEq] at hs
    obtain ⟨vs, hvs, ⟨r, h1⟩, hr, rfl, rfl⟩ := hs
    cases hop : o.op <;> rw [hop] at hok <;> simp only [okOp, Bool.false_eq_true] at hok
    rename_i c
    obtain ⟨callee, args', argTypes⟩ := c
    split at hok
    · rename_i g hc
      simp only at hc
      subst hc
      simp at hok
      obtain ⟨⟨rfl, k2⟩, k3⟩ := hok
      have hr' := evs_rel hE k2 hvs
      refine call f vs _ ?_ hr' ⟨r, hr, rfl⟩
      simp [execOp, hop, resolve, Act.eval, Deferred.ofValue, invoke, callFunc_run k3]
      have : (args'.map a.eval) = (List.map a.eval args'.toList).toArray := by
        apply Array.ext'; simp
      exact this
    · simp at hok
  case callv x args =>
    subst hk
    simp only [opRun] at hs
    split at hs
    · rename_i f caps hx
      simp only [Option.bind_eq_some_iff, Option.map_eq_some_iff, Prod.mk.injEq] at hs
      obtain ⟨vs, hvs, ⟨r, h1⟩, hr, rfl, rfl⟩ := hs
      cases hop : o.op <;> rw [hop] at hok <;> simp only [okOp, Bool.false_eq_true] at hok
      rename_i c
      obtain ⟨callee, args', argTypes⟩ := c
      split at hok
      · rename_i x' hc
        simp only at hc
        subst hc
        simp at hok
        obtain ⟨k1, k2⟩ := hok
        have hr' := evs_rel hE k2 hvs
        have r1 := evS_rel k1 hE hx
        generalize hpv : a.eval x' = pv at r1
        cases r1 with
        | fn hcaps =>
          rename_i cvs
          have hfn := CO.fn _ _ _ _ hr
          refine call f _ (List.map a.eval args'.toList ++ cvs) ?_ (hr'.append (caps_av hcaps)) ⟨r, hr, rfl⟩
          simp [execOp, hop, resolve, hpv, Deferred.ofValue, invoke, callFunc_run hfn]
      · simp at hok
    · simp at hs
  all_goals
    have hs' : step1 E h k = some (v, h') := by rw [hk] at hs ⊢; exact hs
    obtain ⟨β', w', h1, h2, h3⟩ := step1_sound hok hE R hf hs'
    unfold Oper.wp
    cases v with
    | some u =>
      obtain ⟨c, h4, h5⟩ := h3
      rw [h4, Oper.upon_value]
      exact hK β' w' c h1 h2 (fun u' hu => by simp at hu; subst hu; exact h5)
    | none =>
      rw [h3, Oper.upon_skip]
      exact hK β' w' undef h1 h2 (fun u' hu => by simp at hu)

end Go.Ab
