import Derived.Test.YtleoalcbgpjieaaDoorAb15
import Derived.Scope
import Derived.Below
/- Code and calls: what is reckoned here is what the model does. -/
namespace Go.Ab
variable [Base]
set_option linter.unusedSectionVars false
set_option linter.unusedVariables false

def okCode (P : Program) (n : Nat) : AC → Code → Bool
  | .skip, .skip => true
  | .skip, .label _ => true
  | .ret, .ret => true
  | .exit i, .exit j => decide (i = j)
  | .reg ops _, .region _ os false => okOps P n os ops os.toList
  | .regd ops _, .region _ os true => okD (sfM ops) alN P n os ops && okM os ops
  | .regs ops fr _, .region _ os true => okD softX (alX fr) P n os ops && okFree os ops fr
  | .seq a b, .seq c d => okCode P n a c && okCode P n b d
  | .cond x a b, .cond y c d => okO x y && okCode P n a c && okCode P n b d
  | .block i a, .block j c => decide (i = j) && okCode P n a c
  | .loop _ a, .loop c => okCode P n a c
  | .scope a, .scope c => okCode P n a c
  | _, _ => false

def okRes1 (P : Program) : ARes → ResultVar → Bool
  | .t n, .tmp m => decide (n = m)
  | .cell a n agg, .cell b t => decide (a = b) && szIs P t n && aggIs P t agg
  | _, _ => false

def okRes (P : Program) : List ARes → List ResultVar → Bool
  | [], [] => true
  | x :: xs, y :: ys => okRes1 P x y && okRes P xs ys
  | _, _ => false

def okFun (P : Program) (F : AFun) (fn : Func) : Bool :=
  (match fn.body with | some c => okCode P fn.ntmps F.body c | none => false) && okRes P F.res fn.results.toList && decide (F.np ≤ fn.ntmps) && !(fn.name == "runtime.NumGoroutine")

def exOf : Ex → Exit
  | .nm => .normal
  | .ex i => .exit i
  | .rt => .ret

/-- The loop's own wp, at its head. -/
def LoopWp (P : Program) (c : Code) (Q : Exit → Act → World → Prop) (a : Act) (w : World) : Prop :=
  ∀ (b : Frame) (k : List Item) (cs : List Frame), ∃ e a' w', Q e a' w' ∧ Arrives P (lone (b.at a (.code c :: .inLoop c :: k)) cs w) b k cs e a' w'

theorem loop_of {P : Program} {c : Code} {Q : Exit → Act → World → Prop} {a : Act} {w : World} (h : LoopWp P c Q a w) : (Code.loop c).wp P Q a w := by
  intro b k cs
  obtain ⟨e, a', w', hq, harr⟩ := h b k cs
  exact ⟨e, a', w', hq, .of_steps (.one step_loop) harr⟩

theorem loop_round {P : Program} {c : Code} {Q : Exit → Act → World → Prop} {a : Act} {w : World} (h : c.wp P (Exit.then (LoopWp P c Q) Q) a w) : LoopWp P c Q a w := by
  intro b k cs
  obtain ⟨e, a₁, w₁, hq, harr⟩ := h b (.inLoop c :: k) cs
  cases e with
  | normal =>
    obtain ⟨e₂, a₂, w₂, hq₂, harr₂⟩ := hq b k cs
    exact ⟨e₂, a₂, w₂, hq₂, .of_steps (Steps.trans harr (.one step_inLoop)) harr₂⟩
  | exit id => exact ⟨_, a₁, w₁, hq, .pass (x := .inLoop c) rfl (fun _ _ => .inl (by simp)) harr⟩
  | goto l => exact ⟨_, a₁, w₁, hq, .pass (x := .inLoop c) rfl (fun _ _ => .inl (by simp)) harr⟩
  | ret => exact ⟨_, a₁, w₁, hq, .pass (x := .inLoop c) rfl (fun _ _ => .inl (by simp)) harr⟩
  | panic ch => exact ⟨_, a₁, w₁, hq, .pass (x := .inLoop c) rfl (fun _ _ => .inl (by simp)) harr⟩
  | outgrown => exact ⟨_, a₁, w₁, hq, .pass (x := .inLoop c) rfl (fun _ _ => .inl (by simp)) harr⟩

def Post (β : Bt) (h : Heap) (w : World) (n : Nat) (ds : List Deferred) (ex : Ex) (E' : Env) (h' : Heap) (Q : Exit → Act → World → Prop) : Prop :=
  ∀ β' w' a', Stp β h w β' h' w' → Rep β' h' w' → ERel β' E' a'.tmps → a'.tmps.size = n → a'.defers = ds → Q (exOf ex) a' w'

variable {P : Program} {cf : CF}

theorem exec_len (CO : CallOK P cf) (m : Nat) : ∀ {c : AC} {E : Env} {h : Heap} {ex : Ex} {E' : Env} {h' : Heap}, exec cf m c E h = some (ex, E', h') → h.length ≤ h'.length := by
  intro c
  induction c with
  | skip => intro E h ex E' h' hs; simp [exec] at hs; rw [hs.2.2]; exact Nat.le_refl _
  | ret => intro E h ex E' h' hs; simp [exec] at hs; rw [hs.2.2]; exact Nat.le_refl _
  | exit id => intro E h ex E' h' hs; simp [exec] at hs; rw [hs.2.2]; exact Nat.le_refl _
  | reg ops keep =>
    intro E h ex E' h' hs
    simp only [exec, Option.map_eq_some_iff, Prod.mk.injEq] at hs
    obtain ⟨⟨E1, h1⟩, hr, _, _, rfl⟩ := hs
    exact runOps_len CO hr
  | regd ops keep =>
    intro E h ex E' h' hs
    simp only [exec, Option.map_eq_some_iff, Prod.mk.injEq] at hs
    obtain ⟨⟨E1, h1⟩, hr, _, _, rfl⟩ := hs
    obtain ⟨tr, t1, t2, t3⟩ := trace hr
    have T : TR #[] pureX alN cf ops tr := TR.pure0 fun p x hx => ⟨(t3 p x hx).1, (t3 p x hx).2.imp (fun h => h) (fun h => Classical.not_not.2 h)⟩
    have := tr_mono CO T (Nat.zero_le ops.length) (Nat.le_refl _)
    rw [t1, t2] at this
    exact this
  | regs ops fr keep =>
    intro E h ex E' h' hs
    simp only [exec, Option.map_eq_some_iff, Prod.mk.injEq] at hs
    obtain ⟨⟨E1, h1⟩, hr, _, _, rfl⟩ := hs
    exact runOpsS_len CO hr
  | seq a b iha ihb =>
    intro E h ex E' h' hs
    simp only [exec] at hs
    split at hs
    · rename_i E1 h1 he
      exact Nat.le_trans (iha he) (ihb hs)
    · rename_i r hne
      exact iha hs
  | cond c a b iha ihb =>
    intro E h ex E' h' hs
    simp only [exec] at hs
    split at hs
    · split at hs
      · exact iha hs
      · exact ihb hs
    · simp at hs
  | block id a iha =>
    intro E h ex E' h' hs
    simp only [exec] at hs
    split at hs
    · rename_i i E1 h1 he
      split at hs
      · simp at hs; rw [← hs.2.2]; exact iha he
      · simp at hs; rw [← hs.2.2]; exact iha he
    · exact iha hs
  | loop keep a iha =>
    intro E h ex E' h' hs
    simp only [exec] at hs
    have key : ∀ (k : Nat) {E : Env} {h : Heap} {ex : Ex} {E' : Env} {h' : Heap}, iter keep (exec cf m a) k E h = some (ex, E', h') → h.length ≤ h'.length := by
      intro k
      induction k with
      | zero => intro E h ex E' h' hs; simp [iter] at hs
      | succ k ih =>
        intro E h ex E' h' hs
        simp only [iter] at hs
        split at hs
        · rename_i E1 h1 he
          exact Nat.le_trans (iha he) (ih hs)
        · exact iha hs
    exact key m hs
  | scope a iha =>
    intro E h ex E' h' hs
    simp only [exec] at hs
    exact iha hs

theorem exec_sound (hm : P.follows .mixedOrders = true) (CO : CallOK P cf) (m n : Nat) : ∀ {c : AC} {d : Code} {β : Bt} {E : Env} {h : Heap} {w : World} {a : Act} {ex : Ex} {E' : Env} {h' : Heap} {Q : Exit → Act → World → Prop},
    okCode P n c d = true → a.tmps.size = n → ERel β E a.tmps → Rep β h w → fresh β h h' → exec cf m c E h = some (ex, E', h') → Post β h w n a.defers ex E' h' Q → d.wp P Q a w := by
  intro c
  induction c with
  | skip =>
    intro d β E h w a ex E' h' Q hok hn hE R hf hs hK
    cases d <;> simp [okCode] at hok
    all_goals
      simp [exec] at hs
      obtain ⟨rfl, rfl, rfl⟩ := hs
    · exact wp_skip (hK β w a (Stp.refl _ _ _) R hE hn rfl)
    · exact wp_label (hK β w a (Stp.refl _ _ _) R hE hn rfl)
  | ret =>
    intro d β E h w a ex E' h' Q hok hn hE R hf hs hK
    cases d <;> simp [okCode] at hok
    simp [exec] at hs
    obtain ⟨rfl, rfl, rfl⟩ := hs
    exact wp_ret (hK β w a (Stp.refl _ _ _) R hE hn rfl)
  | exit id =>
    intro d β E h w a ex E' h' Q hok hn hE R hf hs hK
    cases d <;> simp [okCode] at hok
    subst hok
    simp [exec] at hs
    obtain ⟨rfl, rfl, rfl⟩ := hs
    exact wp_exit (hK β w a (Stp.refl _ _ _) R hE hn rfl)
  | reg ops keep =>
    intro d β E h w a ex E' h' Q hok hn hE R hf hs hK
    cases d
    case region id os dr =>
      cases dr <;> simp [okCode] at hok
      simp only [exec, Option.map_eq_some_iff, Prod.mk.injEq] at hs
      obtain ⟨⟨E1, h1⟩, hr, rfl, rfl, rfl⟩ := hs
      exact wp_region_list (ops_sound CO hok hn hE R hf hr fun β' w' a' s1 s2 s3 s4 s5 => hK β' w' a' s1 s2 (s3.keep keep) s4 s5)
    all_goals simp [okCode] at hok
  | regd ops keep =>
    intro d β E h w a ex E' h' Q hok hn hE R hf hs hK
    cases d
    case region id os dr =>
      cases dr <;> simp [okCode] at hok
      simp only [exec, Option.map_eq_some_iff, Prod.mk.injEq] at hs
      obtain ⟨⟨E1, h1⟩, hr, rfl, rfl, rfl⟩ := hs
      exact regd_sound hm CO hok.1 hok.2 hn hE R hf hr fun β' w' a' s1 s2 s3 s4 s5 => hK β' w' a' s1 s2 (s3.keep keep) s4 s5
    all_goals simp [okCode] at hok
  | regs ops fr keep =>
    intro d β E h w a ex E' h' Q hok hn hE R hf hs hK
    cases d
    case region id os dr =>
      cases dr <;> simp [okCode] at hok
      simp only [exec, Option.map_eq_some_iff, Prod.mk.injEq] at hs
      obtain ⟨⟨E1, h1⟩, hr, rfl, rfl, rfl⟩ := hs
      exact regs_sound hm CO hok.1 hok.2 hn hE R hf hr (fun _ h => h) fun β' w' a' s1 s2 s3 s4 s5 => hK β' w' a' s1 s2 (s3.keep keep) s4 s5
    all_goals simp [okCode] at hok
  | seq a b iha ihb =>
    intro d β E h w ac ex E' h' Q hok hn hE R hf hs hK
    cases d <;> simp [okCode] at hok
    simp only [exec] at hs
    split at hs
    · rename_i E1 h1 he
      refine wp_seq (iha hok.1 hn hE R (hf.first (exec_len CO m hs)) he fun β1 w1 a1 s1 s2 s3 s4 s5 => ?_)
      refine ihb hok.2 s4 s3 s2 (hf.rest s1) hs fun β2 w2 a2 t1 t2 t3 t4 t5 => hK β2 w2 a2 (s1.trans t1) t2 t3 t4 (t5.trans s5)
    · rename_i r hne
      refine wp_seq (iha hok.1 hn hE R hf hs fun β1 w1 a1 s1 s2 s3 s4 s5 => ?_)
      have := hK β1 w1 a1 s1 s2 s3 s4 s5
      cases ex with
      | nm => exact absurd hs (hne E' h')
      | ex i => exact this
      | rt => exact this
  | cond c a b iha ihb =>
    intro d β E h w ac ex E' h' Q hok hn hE R hf hs hK
    cases d <;> simp [okCode] at hok
    obtain ⟨⟨k1, k2⟩, k3⟩ := hok
    simp only [exec] at hs
    split at hs
    · rename_i t hc
      have r := evS_rel k1 hE hc
      generalize hcv : ac.eval _ = cv at r
      cases r
      cases t
      · simp only [Bool.false_eq_true, if_false] at hs
        exact wp_cond_false hcv (ihb k3 hn hE R hf hs hK)
      · simp only [if_true] at hs
        exact wp_cond_true hcv (iha k2 hn hE R hf hs hK)
    · simp at hs
  | block id a iha =>
    intro d β E h w ac ex E' h' Q hok hn hE R hf hs hK
    cases d <;> simp [okCode] at hok
    obtain ⟨rfl, k2⟩ := hok
    simp only [exec] at hs
    split at hs
    · rename_i i E1 h1 he
      split at hs
      · rename_i hi
        simp at hs
        obtain ⟨rfl, rfl, rfl⟩ := hs
        refine wp_block (iha k2 hn hE R hf he fun β1 w1 a1 s1 s2 s3 s4 s5 => ?_)
        simp only [exOf, Exit.inBlock, hi, if_true]
        exact hK β1 w1 a1 s1 s2 s3 s4 s5
      · rename_i hi
        simp at hs
        obtain ⟨rfl, rfl, rfl⟩ := hs
        refine wp_block (iha k2 hn hE R hf he fun β1 w1 a1 s1 s2 s3 s4 s5 => ?_)
        simp only [exOf, Exit.inBlock, hi, if_false]
        exact hK β1 w1 a1 s1 s2 s3 s4 s5
    · rename_i r hne
      refine wp_block (iha k2 hn hE R hf hs fun β1 w1 a1 s1 s2 s3 s4 s5 => ?_)
      have := hK β1 w1 a1 s1 s2 s3 s4 s5
      cases ex with
      | nm => exact this
      | ex i => exact absurd hs (hne i E' h')
      | rt => exact this
  | loop keep a iha =>
    intro d β E h w ac ex E' h' Q hok hn hE R hf hs hK
    cases d <;> simp [okCode] at hok
    rename_i c
    simp only [exec] at hs
    refine loop_of ?_
    have key : ∀ (k : Nat) {β : Bt} {E : Env} {h : Heap} {w : World} {ac : Act}, ac.tmps.size = n → ERel β E ac.tmps → Rep β h w → fresh β h h' → iter keep (exec cf m a) k E h = some (ex, E', h') →
        Post β h w n ac.defers ex E' h' Q → LoopWp P c Q ac w := by
      intro k
      induction k with
      | zero => intro β E h w ac _ _ _ _ hs _; simp [iter] at hs
      | succ k ih =>
        intro β E h w ac hn hE R hf hs hK
        simp only [iter] at hs
        refine loop_round ?_
        split at hs
        · rename_i E1 h1 he
          have hl : h1.length ≤ h'.length := by
            have : exec cf m (.loop keep a) E1 h1 = some (ex, E', h') ∨ True := .inr trivial
            have key2 : ∀ (k : Nat) {E : Env} {h : Heap} {ex : Ex} {E' : Env} {h' : Heap}, iter keep (exec cf m a) k E h = some (ex, E', h') → h.length ≤ h'.length := by
              intro k
              induction k with
              | zero => intro E h ex E' h' hs; simp [iter] at hs
              | succ k ih =>
                intro E h ex E' h' hs
                simp only [iter] at hs
                split at hs
                · rename_i E1 h1 he
                  exact Nat.le_trans (exec_len CO m he) (ih hs)
                · exact exec_len CO m hs
            exact key2 k hs
          refine iha hok hn (hE.keep keep) R (hf.first hl) he fun β1 w1 a1 s1 s2 s3 s4 s5 => ?_
          exact ih s4 s3 s2 (hf.rest s1) hs fun β2 w2 a2 t1 t2 t3 t4 t5 => hK β2 w2 a2 (s1.trans t1) t2 t3 t4 (t5.trans s5)
        · rename_i r hne
          refine iha hok hn (hE.keep keep) R hf hs fun β1 w1 a1 s1 s2 s3 s4 s5 => ?_
          have := hK β1 w1 a1 s1 s2 s3 s4 s5
          cases ex with
          | nm => exact absurd hs (hne E' h')
          | ex i => exact this
          | rt => exact this
    exact key m hn hE R hf hs hK
  | scope a iha =>
    intro d β E h w ac ex E' h' Q hok hn hE R hf hs hK
    cases d <;> simp [okCode] at hok
    simp only [exec] at hs
    refine wp_scope_straight (iha hok hn hE R hf hs fun β1 w1 a1 s1 s2 s3 s4 s5 => ?_)
    have := hK β1 w1 a1 s1 s2 s3 s4 s5
    cases ex with
    | nm => exact this
    | ex i => exact this
    | rt => exact this

/-! ### Results -/
theorem res1_run {β : Bt} {E : Env} {h : Heap} {w : World} {tmps : Array Value} {r : ARes} {s : ResultVar} {v : PV} (hok : okRes1 P r s = true) (hE : ERel β E tmps) (R : Rep β h w) (hr : resOne E h r = some v) :
    ∃ c, ((match s with
      | .tmp t => pure (tmps.getD t undef)
      | .cell a t => do loadVar t (← asAddr (tmps.getD a undef))) : Sem Value).run P w = .ok c w ∧ PRel β v c := by
  cases r with
  | t k =>
    cases s <;> simp [okRes1] at hok
    subst hok
    simp only [resOne, Option.bind_eq_some_iff] at hr
    obtain ⟨u, hu, hp⟩ := hr
    obtain ⟨c, h1, h2⟩ := hE _ _ hu
    exact ⟨c, by simp [Array.getD_eq_getD_getElem?, h1], h2.pv hp⟩
  | cell a k agg =>
    cases s <;> simp [okRes1] at hok
    rename_i b t
    obtain ⟨⟨rfl, k2⟩, k3⟩ := hok
    simp only [resOne] at hr
    split at hr
    · rename_i id off hg
      simp only [Option.bind_eq_some_iff] at hr
      obtain ⟨vs, hvs, u, hu, hp⟩ := hr
      obtain ⟨c, h1, h2⟩ := hE _ _ hg
      cases h2 with
      | sc h2 =>
        cases h2 with
        | ptr hL hn' =>
          obtain ⟨c', e1, e2⟩ := loadVar_run (P := P) k2 k3 R hL hn' hvs hu
          exact ⟨c', by simp [Array.getD_eq_getD_getElem?, h1, asAddr, e1], e2.pv hp⟩
    · simp at hr

theorem resAll_run {β : Bt} {E : Env} {h : Heap} {w : World} {tmps : Array Value} : ∀ {rs : List ARes} {ss : List ResultVar} {vs : List PV}, okRes P rs ss = true → ERel β E tmps → Rep β h w → resAll E h rs = some vs →
    ∃ cs : List Value, (ss.mapM (fun s => (match s with
      | .tmp t => pure (tmps.getD t undef)
      | .cell a t => do loadVar t (← asAddr (tmps.getD a undef))) : ResultVar → Sem Value)).run P w = .ok cs w ∧ F2 (PRel β) vs cs
  | [], [], vs, _, _, _, hr => by simp [resAll] at hr; subst hr; exact ⟨[], by simp, .nil⟩
  | r :: rs, s :: ss, vs, hok, hE, R, hr => by
    simp only [okRes, Bool.and_eq_true] at hok
    simp only [resAll, Option.bind_eq_some_iff, Option.map_eq_some_iff] at hr
    obtain ⟨v, hv, us, hus, rfl⟩ := hr
    obtain ⟨c, e1, e2⟩ := res1_run hok.1 hE R hv
    obtain ⟨cs, e3, e4⟩ := resAll_run hok.2 hE R hus
    refine ⟨c :: cs, ?_, .cons e2 e4⟩
    rw [List.mapM_cons]
    simp only [Sem.run_bind, e1, Result.andThen_ok, e3, Sem.run_pure]
  | [], _ :: _, _, hok, _, _, _ => by simp [okRes] at hok
  | _ :: _, [], _, hok, _, _, _ => by simp [okRes] at hok

theorem resOne_all {E : Env} {h : Heap} {rs : List ARes} {v : AV} (hr : resultsA rs E h = some v) : ∃ vs, resAll E h rs = some vs ∧ v = (match vs with | [p] => p.av | ps => .tup ps) := by
  unfold resultsA at hr
  split at hr
  · simp only [Option.map_eq_some_iff] at hr
    obtain ⟨p, hp, rfl⟩ := hr
    exact ⟨[p], by simp [resAll, hp], rfl⟩
  · rename_i hne
    simp only [Option.map_eq_some_iff] at hr
    obtain ⟨ps, hp, rfl⟩ := hr
    refine ⟨ps, hp, ?_⟩
    match rs, ps, hne, hp with
    | [], ps, _, hp => simp [resAll] at hp; subst hp; rfl
    | [r], ps, hne, _ => exact absurd rfl (hne r)
    | r :: s :: rs, ps, _, hp =>
      simp only [resAll, Option.bind_eq_some_iff, Option.map_eq_some_iff] at hp
      obtain ⟨a, _, q, ⟨b, _, c, _, rfl⟩, rfl⟩ := hp
      rfl

theorem results_run {β : Bt} {E : Env} {h : Heap} {w : World} {tmps : Array Value} {rs : List ARes} {fn : Func} {v : AV} (hok : okRes P rs fn.results.toList = true) (hE : ERel β E tmps) (R : Rep β h w)
    (hr : resultsA rs E h = some v) : ∃ c, (results fn tmps).run P w = .ok c w ∧ ARel β v c := by
  obtain ⟨vs, h1, rfl⟩ := resOne_all hr
  obtain ⟨cs, h2, h3⟩ := resAll_run hok hE R h1
  have h4 : (results fn tmps).run P w = .ok (if h : cs.toArray.size = 1 then cs.toArray[0] else .tuple cs.toArray) w := by
    unfold results
    simp only [Sem.run_bind]
    rw [Array.mapM_eq_mapM_toList]
    simp only [Sem.run_map]
    erw [h2]
    simp
  rw [h4]
  refine ⟨_, rfl, ?_⟩
  cases h3 with
  | nil => exact .tup .nil
  | cons a b =>
    cases b with
    | nil => exact a.av
    | cons c d => exact .tup (.cons a (.cons c d))

/-! ### Calls -/
structure FTok (P : Program) (FT : FuncId → Option AFun) : Prop where
  mixed : P.follows .mixedOrders = true
  ok : ∀ f F, FT f = some F → ∃ fn, P.funcs[f]? = some fn ∧ okFun P F fn = true

theorem params_get : ∀ (vs : List AV) (k t : Nat) (v : AV), Env.get (params k vs) t = some v → k ≤ t ∧ vs[t - k]? = some v
  | [], k, t, v, h => by simp [params, Env.get] at h
  | u :: vs, k, t, v, h => by
    simp only [params, Env.get] at h
    split at h
    · rename_i e; subst e
      simp at h; subst h
      exact ⟨Nat.le_refl _, by simp⟩
    · obtain ⟨h1, h2⟩ := params_get vs (k + 1) t v h
      refine ⟨by omega, ?_⟩
      rw [show t - k = (t - (k + 1)) + 1 by omega]
      simpa using h2

/-- A contract. -/
structure HkOK (P : Program) (f : FuncId) (g : Hook) : Prop where
  fn : fnIs P f = true
  len : ∀ args h v h', g args h = some (v, h') → h.length ≤ h'.length
  run : ∀ args h v h', g args h = some (v, h') → ∀ β w vs, F2 (ARel β) args vs → Rep β h w → fresh β h h' →
    Calls P f vs.toArray w fun e w' => ∃ β' c, e = .returned c ∧ ARel β' v c ∧ Stp β h w β' h' w' ∧ Rep β' h' w'

def HKok (P : Program) (HK : FuncId → Option Hook) : Prop := ∀ f g, HK f = some g → HkOK P f g

def noHK : FuncId → Option Hook := fun _ => none
theorem noHK_ok (P : Program) : HKok P noHK := fun f g h => by simp [noHK] at h

theorem finish_some {F : AFun} {r : Out} {v : AV} {h' : Heap} (h : finish F r = some (v, h')) : ∃ ex E', r = some (ex, E', h') ∧ (ex = .nm ∨ ex = .rt) ∧ resultsA F.res E' h' = some v := by
  unfold finish at h
  split at h
  · simp only [Option.map_eq_some_iff, Prod.mk.injEq] at h
    obtain ⟨u, hu, rfl, rfl⟩ := h
    exact ⟨_, _, rfl, .inl rfl, hu⟩
  · simp only [Option.map_eq_some_iff, Prod.mk.injEq] at h
    obtain ⟨u, hu, rfl, rfl⟩ := h
    exact ⟨_, _, rfl, .inr rfl, hu⟩
  · simp at h

theorem call_ok {FT : FuncId → Option AFun} {HK : FuncId → Option Hook} (ok : FTok P FT) (hk : HKok P HK) : ∀ m, CallOK P (callA FT HK m)
  | 0 => ⟨fun _ _ _ _ _ h => by simp [callA] at h, fun _ _ _ _ h => by simp [callA] at h, fun _ _ _ _ _ h => by simp [callA] at h⟩
  | m + 1 => by
    have ih := call_ok ok hk m
    have body : ∀ f args h v h', callA FT HK (m + 1) f args h = some (v, h') → (∃ g, HK f = some g ∧ g args h = some (v, h')) ∨
        ∃ F ex E', FT f = some F ∧ args.length = F.np ∧ exec (callA FT HK m) m F.body (params 0 args) h = some (ex, E', h') ∧ (ex = .nm ∨ ex = .rt) ∧ resultsA F.res E' h' = some v := by
      intro f args h v h' hs
      simp only [callA] at hs
      split at hs
      · exact .inl ⟨_, by assumption, hs⟩
      · split at hs
        · simp at hs
        · rename_i F hF
          split at hs
          · rename_i hl
            obtain ⟨ex, E', h1, h2, h3⟩ := finish_some hs
            exact .inr ⟨F, ex, E', hF, hl, h1, h2, h3⟩
          · simp at hs
    refine ⟨fun f args h v h' hs => ?_, fun f args h r hs => ?_, fun f args h v h' hs β w vs hr R hf => ?_⟩
    · rcases body f args h v h' hs with ⟨g, h1, h2⟩ | ⟨F, ex, E', _, _, he, _, _⟩
      · exact (hk f g h1).len _ _ _ _ h2
      · exact exec_len ih m he
    · rcases body f args h r.1 r.2 hs with ⟨g, h1, h2⟩ | ⟨F, ex, E', hF, _⟩
      · exact (hk f g h1).fn
      · obtain ⟨fn, h1, h2⟩ := ok.ok f F hF
        simp only [okFun, Bool.and_eq_true] at h2
        obtain ⟨⟨⟨h3, h4⟩, h5⟩, h6⟩ := h2
        split at h3
        · rename_i c hc
          simp [fnIs, h1, hc]
          simpa using h6
        · simp at h3
    · rcases body f args h v h' hs with ⟨g, h1, h2⟩ | ⟨F, ex, E', hF, hl, he, hex, hres⟩
      · exact (hk f g h1).run _ _ _ _ h2 β w vs hr R hf
      · obtain ⟨fn, h1, h2⟩ := ok.ok f F hF
        simp only [okFun, Bool.and_eq_true, decide_eq_true_eq] at h2
        obtain ⟨⟨⟨h3, h4⟩, h5⟩, h6⟩ := h2
        split at h3
        · rename_i c hc
          have hvl := hr.length
          refine calls_of_wp h1 hc (exec_sound ok.mixed ih m fn.ntmps h3 ?_ ?_ R hf he ?_)
          · simp; omega
          · intro t u ht
            obtain ⟨-, k2⟩ := params_get args 0 t u ht
            simp at k2
            obtain ⟨cv, k3, k4⟩ := hr.get k2
            refine ⟨cv, ?_, k4⟩
            have hlt : t < vs.length := (List.getElem?_eq_some_iff.1 k3).1
            rw [Array.getElem?_append_left (by simpa using hlt)]
            simpa using k3
          · intro β' w' a' s1 s2 s3 s4 s5
            obtain ⟨cv, r1, r2⟩ := results_run h4 s3 s2 hres
            rcases hex with rfl | rfl
            · exact ⟨s5, cv, r1, β', cv, rfl, r2, s1, s2⟩
            · exact ⟨s5, cv, r1, β', cv, rfl, r2, s1, s2⟩
        · simp at h3

/-- A function without arguments whose answer does not hang on memory: the answer, and memory as it was. -/
def constHook (v : AV) : Hook := fun args h => if args.isEmpty then some (v, h) else none

theorem rep_later {β : Bt} {h : Heap} {w w' : World} (R : Rep β h w) (hw : ∀ b, b < w.heap.size → w'.heap[b]? = w.heap[b]?) : Rep β h w' :=
  ⟨R.sz, fun id L cs rw esz hg hL => let B := R.blk id L cs rw esz hg hL; B.mono (fun _ _ h => h) (hw _ B.lt), R.exc, by
    refine ⟨?_, fun b hb => (hw b (Nat.lt_of_lt_of_le hb R.keep.1)).trans (R.keep.2 b hb)⟩
    rcases Nat.eq_zero_or_pos Base.B with h0 | h0
    · rw [h0]; exact Nat.zero_le _
    · have h1 := hw (Base.B - 1) (by have := R.keep.1; omega)
      rw [Array.getElem?_eq_getElem (show Base.B - 1 < w.heap.size by have := R.keep.1; omega)] at h1
      have := (Array.getElem?_eq_some_iff.1 h1).1
      omega⟩

end Go.Ab
namespace Go.Ab
section
local instance zPin : Base := ⟨0, default⟩
theorem const_run {P : Program} {FT : FuncId → Option AFun} {HK : FuncId → Option Hook} (ok : FTok P FT) (hk : HKok P HK) {m : Nat} {f : FuncId} {v : AV} {h' : Heap}
    (hr : callA FT HK m f [] [] = some (v, h')) : fnIs P f = true ∧ ∀ w : World, Calls P f #[] w fun e w' => ∃ (β' : Bt) (c : Value), e = .returned c ∧ ARel β' v c ∧ Stp (fun _ => none) [] w β' h' w' := by
  have CO := call_ok ok hk m
  refine ⟨CO.fn _ _ _ _ hr, fun w => ?_⟩
  refine (CO.run f [] [] _ h' hr (fun _ => none) w [] .nil ⟨fun _ _ _ h => by simp at h, fun _ _ _ _ _ h => by simp at h, fun _ _ _ _ _ _ _ _ _ h => by simp at h, ⟨Nat.zero_le _, fun _ h => absurd h (Nat.not_lt_zero _)⟩⟩ (fun _ _ _ => rfl)).mono ?_
  rintro e w' ⟨β', c, rfl, h2, h3, h4⟩
  exact ⟨β', c, rfl, h2, h3⟩
end

theorem constHook_ok [Base] {P : Program} {FT : FuncId → Option AFun} {HK : FuncId → Option Hook} (ok : FTok P FT) (hk : @HKok ⟨0, default⟩ P HK) {m : Nat} {f : FuncId} {x : SV} {h' : Heap} (hx : ∀ β β' c, SRel β' x c → SRel β x c)
    (hr : callA FT HK m f [] [] = some (.sc x, h')) : HkOK P f (constHook (.sc x)) := by
  obtain ⟨hfn, hrun⟩ := const_run ok hk hr
  refine ⟨hfn, fun args h v h1 hs => ?_, fun args h v h1 hs β w vs hvs R hf => ?_⟩
  · unfold constHook at hs
    split at hs
    · simp at hs; rw [hs.2]; exact Nat.le_refl _
    · simp at hs
  · unfold constHook at hs
    split at hs
    · rename_i he
      have : args = [] := by simpa using he
      subst this
      simp at hs
      obtain ⟨rfl, rfl⟩ := hs
      cases hvs
      refine (hrun w).mono ?_
      rintro e w' ⟨β', c, rfl, h2, h3⟩
      have hw : ∀ b, b < w.heap.size → w'.heap[b]? = w.heap[b]? := fun b hb => h3.frame b hb (by rintro ⟨id, L, cs, esz, hg, -⟩; simp at hg)
      cases h2 with
      | sc h2 =>
        exact ⟨β, c, rfl, .sc (hx _ _ _ h2), ⟨fun _ _ h => h, fun _ _ h => .inl h, fun id h1 h2 => by omega, Nat.le_refl _, fun b hb => .inr hb, fun id L h1 h2 => by rw [h1] at h2; simp at h2, fun b hb _ => hw b hb, h3.size, h3.os, h3.tape, h3.output⟩, rep_later R hw⟩
    · simp at hs

end Go.Ab


/- From a reckoned answer to a call in the model; slices of integers that came in. -/
namespace Go.Ab
variable [Base]
set_option linter.unusedSectionVars false
set_option linter.unusedVariables false

/-- What is known of the memory of the arguments. -/
structure ArgB (w : World) (L : Loc) (b : Blk) : Prop where
  esz : L.esz = b.esz
  ty : b.esz.ty = none ∧ b.esz.n < 1000000
  cells : ∀ cs rw e, b = .cells cs rw e → rw = false ∧ ∃ ccs e' fz, w.heap[L.b]? = some (.cells ccs e' fz) ∧ ccs.size = L.sz ∧ L.base + cs.length ≤ L.sz ∧
    ∀ (i : Nat) (v : SV), cs[i]? = some v → ∃ c, ccs[L.base + i]? = some c ∧ ∀ β : Bt, SRel β v c

theorem rep_args {w : World} {h : Heap} {Ls : List Loc} (hl : Ls.length = h.length) (hn : Base.B ≤ w.heap.size ∧ ∀ b, b < Base.B → w.heap[b]? = Base.W.heap[b]?) (hb : ∀ (id : Nat) (L : Loc) (b : Blk), Ls[id]? = some L → h[id]? = some b → ArgB w L b) : Rep (fun id => Ls[id]?) h w := by
  refine ⟨fun id b L hg hL => (hb id L b hL hg).esz, fun id L cs rw esz hg hL => ?_, fun i j L M cs esz cs' rw' esz' hi hj hij hL hM => ?_, hn⟩
  · have hB := hb id L _ hL hg
    obtain ⟨rfl, ccs, e', fz, h1, h2, h3, h4⟩ := hB.cells cs rw esz rfl
    exact .inl ⟨hB.ty.2, hB.esz, ccs, e', fz, h1, h2, h3, fun i v hv => let ⟨c, q1, q2⟩ := h4 i v hv; ⟨c, q1, q2 _⟩, fun h => by simp at h, (by intro t ht; have h5 : esz.ty = none := hB.ty.1; rw [h5] at ht; cases ht), (by intro t ht; have h5 : esz.ty = none := hB.ty.1; rw [ht] at h5; cases h5), fun h => by simp at h⟩
  · obtain ⟨h1, -⟩ := (hb i L _ hL hi).cells cs true esz rfl
    simp at h1

theorem top_below {P : Program} {FT : FuncId → Option AFun} {HK : FuncId → Option Hook} (ok : FTok P FT) (hk : HKok P HK) {m : Nat} {f : FuncId} {args : List AV} {vs : List Value} {h h' : Heap} {w : World} {Ls : List Loc} (hl : Ls.length = h.length) (hn : Base.B ≤ w.heap.size ∧ ∀ b, b < Base.B → w.heap[b]? = Base.W.heap[b]?)
    (hb : ∀ (id : Nat) (L : Loc) (b : Blk), Ls[id]? = some L → h[id]? = some b → ArgB w L b) (hr : F2 (ARel fun id => Ls[id]?) args vs) (hc : callA FT HK m f args h = some (.sc (.bool true), h')) :
    Calls P f vs.toArray w fun e w' => e = .returned (.bool true) ∧ RowKit.Below w.heap.size w w' := by
  refine ((call_ok ok hk m).run f args h _ h' hc _ w vs hr (rep_args hl hn hb) ?_).mono ?_
  · intro id h1 h2
    exact List.getElem?_eq_none (by omega)
  · rintro e w' ⟨β', c, rfl, h1, h2, h3⟩
    cases h1 with
    | sc h1 =>
      cases h1
      refine ⟨rfl, ⟨h2.os, h2.tape, h2.output, h2.size, fun k hk => h2.frame k hk ?_⟩⟩
      rintro ⟨id, L, cs, esz, hg, hL, -⟩
      obtain ⟨h4, -⟩ := (hb id L _ hL hg).cells cs true esz rfl
      simp at h4

/-- What lay there at the beginning lies there still. -/
theorem Rep.cell {β : Bt} {h : Heap} {w : World} (R : Rep β h w) {a : Addr} (ha : a.block < Base.B) : w.cell? a = Base.W.cell? a := by
  unfold World.cell?
  rw [R.keep.2 _ ha]
theorem Rep.var {P : Program} {β : Bt} {h : Heap} {w : World} (R : Rep β h w) {n : String} {g : Nat} (hg : P.globalNamed n = some g) (hb : g < Base.B) : w.var? P n = Base.W.var? P n := by
  unfold World.var?
  rw [hg]
  simp only [Option.bind_some, R.keep.2 _ hb]

/-- A slice of integers that came in. -/
def RowI (k : IntKind) (w : World) (a : Option Addr) (len cap : Nat) (zs : List Int) : Prop :=
  (a = none ∧ len = 0 ∧ cap = 0 ∧ zs = []) ∨
  ∃ x, a = some x ∧ len ≤ cap ∧ cap ≤ maxLen ∧ zs.length = cap ∧ (∀ i, i < zs.length → w.cell? (x.add i) = some (.int k (zs.getD i 0))) ∧ ∀ n ∈ zs, (Lit.int k n).wf = true

/-- A slice's value here: n elements of esz cells. -/
def IsSl (h : Heap) (s : SV) (esz : ESz) (n : Nat) (vs : List SV) : Prop :=
  (s = .nilS ∧ n = 0 ∧ vs = []) ∨ ∃ id off cap b, s = .slc id off n cap ∧ h[id]? = some b ∧ b.esz = esz ∧ (n = 0 → vs = []) ∧ (0 < n → ∃ cs rw, b = .cells cs rw esz ∧ cut cs off (n * esz.n) = some vs)

def IsInts (h : Heap) (s : SV) (xs : List Int) : Prop := IsSl h s 1 xs.length (xs.map (.int .i64))

theorem add_spot {w : World} {x : Addr} {v : Value} (h : w.cell? (x.add 0) = some v) : x = ⟨x.block, x.off, none⟩ := by
  have h0 : x.add 0 = x := by simp [Addr.add]
  rw [h0] at h
  unfold World.cell? at h
  split at h
  · split at h
    · simp at h
    · rename_i hs
      cases x
      simp at hs
      simp [hs]
  · simp at h

/-- A slice of integers that came in, as the heap's block number id. -/
theorem arg_ints {w : World} {a : Option Addr} {len cap : Nat} {zs : List Int} (hr : RowI .i64 w a len cap zs) (id : Nat) :
    ∃ (s : SV) (b : Blk) (L : Loc), ArgB w L b ∧ (∀ β : Bt, β id = some L → SRel β s (.slice a len cap)) ∧ (∀ h : Heap, h[id]? = some b → IsInts h s (zs.take len)) ∧ (zs.take len).length = len := by
  rcases hr with ⟨rfl, rfl, rfl, rfl⟩ | ⟨x, rfl, h1, h2, h3, h4, h5⟩
  · refine ⟨.nilS, .dead 1, ⟨0, 0, 0, 1⟩, ⟨rfl, ⟨rfl, show (1 : ESz).n < 1000000 by decide⟩, fun cs rw e h => by simp at h⟩, fun β _ => .nilS, fun h _ => .inl ⟨rfl, by simp, by simp⟩, by simp⟩
  · have hlen : (zs.take len).length = len := by simp; omega
    by_cases h0 : len = 0
    · subst h0
      by_cases hc : cap = 0
      · subst hc
        refine ⟨.slc id 0 0 none, .dead 1, ⟨0, 0, 0, 1⟩, ⟨rfl, ⟨rfl, show (1 : ESz).n < 1000000 by decide⟩, fun cs rw e h => by simp at h⟩, fun β hb => .slc hb (fun k hk => by simp at hk) (Nat.le_refl _) (fun h => by omega) (fun h => by omega) (show (1 : ESz).n < 1000000 by decide), fun h hg => ?_, by simp⟩
        exact .inr ⟨id, 0, none, _, by simp, hg, rfl, by simp, by simp⟩
      · have hc0 := h4 0 (by omega)
        have hx := add_spot hc0
        have hlast := h4 (cap - 1) (by omega)
        rw [hx, Addr.add_off] at hlast
        unfold World.cell? at hlast
        split at hlast
        · rename_i ccs e fz hh
          simp at hlast
          have hsz := (Array.getElem?_eq_some_iff.1 hlast).1
          refine ⟨.slc id 0 0 none, .dead 1, ⟨x.block, x.off, ccs.size, 1⟩, ⟨rfl, ⟨rfl, show (1 : ESz).n < 1000000 by decide⟩, fun cs rw e h => by simp at h⟩, fun β hb => .slc hb (fun k hk => by simp at hk) h1 (fun _ => by simpa using hx) (fun _ => ⟨Nat.le_refl _, by simp at hsz ⊢; omega⟩) (show (1 : ESz).n < 1000000 by decide), fun h hg => ?_, by simp⟩
          exact .inr ⟨id, 0, none, _, by simp, hg, rfl, by simp, by simp⟩
        · simp at hlast
    · have hc0 := h4 0 (by omega)
      have hx := add_spot hc0
      have hlast := h4 (cap - 1) (by omega)
      rw [hx, Addr.add_off] at hlast
      unfold World.cell? at hlast
      split at hlast
      · rename_i ccs e fz hh
        simp at hlast hh
        have hsz := (Array.getElem?_eq_some_iff.1 hlast).1
        refine ⟨.slc id 0 len none, .cells ((zs.take len).map (.int .i64)) false 1, ⟨x.block, x.off, ccs.size, 1⟩, ⟨rfl, ⟨rfl, show (1 : ESz).n < 1000000 by decide⟩, fun cs rw e' h => ?_⟩, fun β hb => .slc hb (fun k hk => by simp at hk) h1 (fun _ => by simpa using hx) (fun _ => ⟨Nat.le_refl _, by simp at hsz ⊢; omega⟩) (show (1 : ESz).n < 1000000 by decide), fun h hg => ?_, hlen⟩
        · simp at h
          obtain ⟨rfl, rfl, rfl⟩ := h
          refine ⟨rfl, ccs, e, fz, hh, rfl, by simp at hsz ⊢; omega, fun i v hi => ?_⟩
          have hil := (List.getElem?_eq_some_iff.1 hi).1
          simp at hil
          have hil1 : i < len := by omega
          have hil2 : i < zs.length := by omega
          have hci := h4 i hil2
          rw [hx, Addr.add_off, cell_of_row w x.block _ ccs e fz hh] at hci
          refine ⟨_, hci, fun β => ?_⟩
          simp [hil1, hil2] at hi
          subst hi
          simp [List.getD, hil2]
          exact .int _ _
        · refine .inr ⟨id, 0, none, _, by rw [hlen], hg, rfl, fun h => by omega, fun _ => ⟨_, _, rfl, ?_⟩⟩
          rw [hlen]
          unfold cut
          simp only [ESz.one_n]
          rw [if_pos (by simp; omega)]
          simp
          apply List.take_of_length_le
          simp; omega
      · simp at hlast

end Go.Ab

