/- Each operation does in the model what it does here. -/
import Derived.Test.YtadelcikpkhclaaDoorAb4
import Derived.ChangeKeysEq
import Derived.LaidEql
import Derived.Laws.StructEq
namespace Go.Ab

def Out1 (β : Bt) (h : Heap) (w : World) (r : Result Next) (v : Option AV) (h' : Heap) : Prop :=
  ∃ β' w', Stp β h w β' h' w' ∧ Rep β' h' w' ∧ match v with
    | some u => ∃ c, r = .ok (.value c) w' ∧ ARel β' u c
    | none => r = .ok .skip w'

set_option linter.unusedVariables false
variable {P : Program} {β : Bt} {E : Env} {h : Heap} {w : World} {a : Act}

theorem out_pure {r : Result Next} {u : AV} {c : Value} (R : Rep β h w) (hr : r = .ok (.value c) w) (hc : ARel β u c) : Out1 β h w r (some u) h :=
  ⟨β, w, Stp.refl _ _ _, R, c, hr, hc⟩

theorem binI_run {op : BinOp} {k : IntKind} {x y : Int} {v : SV} (hs : isShift op = false) (h : binI op k x y = some v) (w : World) :
    ∃ c, (binOp op 0 (.int k x) (.int k y)).run P w = .ok c w ∧ SRel β v c := by
  unfold binI wrapI at h
  cases op <;> simp only [Option.some.injEq] at h
  case quo =>
    split at h
    · simp at h
    · simp at h; subst h
      refine ⟨_, ?_, .int _ _⟩
      simp [binOp, Op.intDiv, *]
  case rem =>
    split at h
    · simp at h
    · simp at h; subst h
      refine ⟨_, ?_, .int _ _⟩
      simp [binOp, Op.intDiv, *]
  all_goals first
    | (subst h; refine ⟨_, ?_, .int _ _⟩; simp [binOp, Op.intArith, Op.intBits]; done)
    | (subst h; refine ⟨_, ?_, .bool _⟩; simp [binOp, Op.intCmp]; done)
    | (simp at h; done)
    | (simp [isShift] at hs; done)

theorem shI_run {op : BinOp} {k j : IntKind} {x y : Int} {v : SV} (h : shI op k x y = some v) (w : World) :
    ∃ c, (binOp op 0 (.int k x) (.int j y)).run P w = .ok c w ∧ SRel β v c := by
  unfold shI wrapI at h
  split at h
  · simp at h
  · split at h
    · simp at h; subst h
      refine ⟨_, ?_, .int _ _⟩
      simp [binOp, Op.shift, *]
    · simp at h; subst h
      refine ⟨_, ?_, .int _ _⟩
      simp [binOp, Op.shift, *]
    · simp at h

theorem binT_run {op : BinOp} {x y : ByteArray} {v : SV} (h : binT op x y = some v) (w : World) :
    ∃ c, (binOp op 0 (.string x) (.string y)).run P w = .ok c w ∧ SRel β v c := by
  unfold binT at h
  cases op <;> simp only [Option.some.injEq] at h
  case add =>
    split at h
    · rename_i hle
      simp at h; subst h
      refine ⟨_, ?_, .str _⟩
      have : ¬ (((x.size + y.size : Nat) : Int) > IntKind.i64.max) := by
        have : IntKind.i64.max = 9223372036854775807 := by decide
        omega
      simp [binOp, Op.stringOp] at this ⊢
      exact this
    · simp at h
  all_goals first
    | (subst h; refine ⟨_, ?_, .bool _⟩; simp [binOp, Op.stringOp]; done)
    | (simp at h; done)

theorem binOp_type (op : BinOp) (t : TypeId) (x y : Value) (h : (∃ k m j n, x = .int k m ∧ y = .int j n) ∨ (∃ s u, x = .string s ∧ y = .string u)) : binOp op t x y = binOp op 0 x y := by
  rcases h with ⟨k, m, j, n, rfl, rfl⟩ | ⟨s, u, rfl, rfl⟩
  · cases op <;> rfl
  · cases op <;> rfl

theorem eqGuard_run (op : BinOp) (t : TypeId) (x y : Operand) {u v : Value} (hu : u.oneCell' = true) (hn : u ≠ .nilIface ∨ v ≠ .nilIface ∨ (∃ c, y = .const c)) (w : World) :
    (eqGuard op t x y u v).run P w = .ok () w := by
  have key : ∀ op', op' = BinOp.eql ∨ op' = BinOp.neq → (eqGuard op' t x y u v).run P w = .ok () w := by
    intro op' hop
    cases u <;> try (rcases hop with rfl | rfl <;> rfl)
    · cases v <;> try (rcases hop with rfl | rfl <;> rfl)
      rcases hn with h | h | ⟨c, rfl⟩
      · exact absurd rfl h
      · exact absurd rfl h
      · rcases hop with rfl | rfl <;> simp [eqGuard]
    · simp [Value.oneCell'] at hu
  cases op <;> first | rfl | exact key _ (.inl rfl) | exact key _ (.inr rfl)

theorem binS_sound {op : BinOp} {x y v : SV} {p q : Value} (hx : SRel β x p) (hy : SRel β y q) (hv : binS op x y = some v) (t : TypeId) (w : World) :
    ∃ c, (binOp op t p q).run P w = .ok c w ∧ SRel β v c := by
  unfold binS at hv
  split at hv
  · cases hx; cases hy
    rw [binOp_type op t _ _ (.inl ⟨_, _, _, _, rfl, rfl⟩)]
    split at hv
    · exact shI_run hv w
    · split at hv
      · rename_i hk; subst hk; exact binI_run (by simp_all) hv w
      · simp at hv
  · cases hx; cases hy
    rw [binOp_type op t _ _ (.inr ⟨_, _, rfl, rfl⟩)]
    exact binT_run hv w
  · simp at hv

theorem binS_one {op : BinOp} {x y v : SV} (hv : binS op x y = some v) : (∃ k n, x = .int k n) ∨ ∃ s, x = .str s := by
  unfold binS at hv
  split at hv
  · exact .inl ⟨_, _, rfl⟩
  · exact .inr ⟨_, rfl⟩
  · simp at hv


theorem SRel.ne_nilI {x : SV} {v : Value} (h : SRel β x v) (hx : x ≠ .nilI) : v ≠ .nilIface := by
  cases h <;> simp at hx ⊢

theorem evS_some {x : AO} {s : SV} (h : ev E x = some (.sc s)) : evS E x = some s := by simp [evS, h]

theorem exec_value {o : Oper} {r : Sem Value} {c : Value} {w' : World} (ho : execOp a.eval o = (do pure (.value (← r)))) (hr : r.run P w = .ok c w') :
    (execOp a.eval o).run P w = .ok (.value c) w' := by rw [ho]; simp [hr]

theorem s_mv {x : AO} {o : Oper} {v : Option AV} {h' : Heap} (hok : okOp P (.mv x) o.op = true) (hE : ERel β E a.tmps) (R : Rep β h w)
    (hs : step1 E h (.mv x) = some (v, h')) : Out1 β h w ((execOp a.eval o).run P w) v h' := by
  simp only [step1, Option.map_eq_some_iff, Prod.mk.injEq] at hs
  obtain ⟨u, hu, rfl, rfl⟩ := hs
  cases hop : o.op <;> rw [hop] at hok <;> simp [okOp] at hok
  all_goals exact out_pure R (by simp [execOp, hop]) (ev_rel hok hE hu)

theorem s_pick {c x y : AO} {o : Oper} {v : Option AV} {h' : Heap} (hok : okOp P (.pick c x y) o.op = true) (hE : ERel β E a.tmps) (R : Rep β h w)
    (hs : step1 E h (.pick c x y) = some (v, h')) : Out1 β h w ((execOp a.eval o).run P w) v h' := by
  cases hop : o.op <;> rw [hop] at hok <;> simp [okOp] at hok
  obtain ⟨⟨k1, k2⟩, k3⟩ := hok
  simp only [step1] at hs
  split at hs
  case h_2 => simp at hs
  rename_i t hc
  cases t <;> simp only [if_true, Bool.false_eq_true, if_false] at hs
  all_goals first
    | (simp at hs; done)
    | (simp only [Option.map_eq_some_iff, Prod.mk.injEq] at hs
       obtain ⟨u, hu, rfl, rfl⟩ := hs
       have hcr := evS_rel k1 hE hc
       generalize hcv : a.eval _ = cv at hcr
       cases hcr
       first
         | exact out_pure R (by simp [execOp, hop, hcv, asBool]) (ev_rel k2 hE hu)
         | exact out_pure R (by simp [execOp, hop, hcv, asBool]) (ev_rel k3 hE hu))

theorem s_bin {op : BinOp} {x y : AO} {o : Oper} {v : Option AV} {h' : Heap} (hok : okOp P (.bin op x y) o.op = true) (hE : ERel β E a.tmps) (R : Rep β h w)
    (hs : step1 E h (.bin op x y) = some (v, h')) : Out1 β h w ((execOp a.eval o).run P w) v h' := by
  cases hop : o.op <;> rw [hop] at hok <;> simp [okOp] at hok
  rename_i t x' y' t'
  obtain ⟨⟨rfl, k2⟩, k3⟩ := hok
  simp only [step1, Option.bind_eq_some_iff, Option.map_eq_some_iff, Prod.mk.injEq] at hs
  obtain ⟨p, hp, q, hq, u, hu, rfl, rfl⟩ := hs
  have r1 := evS_rel k2 hE hp
  have r2 := evS_rel k3 hE hq
  obtain ⟨c, h1, h2⟩ := binS_sound r1 r2 hu t w (P := P)
  have hg := eqGuard_run (P := P) op t x' y' (u := a.eval x') (v := a.eval y') r1.one (by
    rcases binS_one hu with ⟨k, n, rfl⟩ | ⟨s, rfl⟩
    · exact .inl (r1.ne_nilI (by simp))
    · exact .inl (r1.ne_nilI (by simp))) w
  exact out_pure R (by simp [execOp, hop, hg, h1]) (.sc h2)

theorem s_un {op : UnOp} {x : AO} {o : Oper} {v : Option AV} {h' : Heap} (hok : okOp P (.un op x) o.op = true) (hE : ERel β E a.tmps) (R : Rep β h w)
    (hs : step1 E h (.un op x) = some (v, h')) : Out1 β h w ((execOp a.eval o).run P w) v h' := by
  cases hop : o.op <;> rw [hop] at hok <;> simp [okOp] at hok
  obtain ⟨rfl, k2⟩ := hok
  simp only [step1, Option.bind_eq_some_iff, Option.map_eq_some_iff, Prod.mk.injEq] at hs
  obtain ⟨p, hp, u, hu, rfl, rfl⟩ := hs
  have r1 := evS_rel k2 hE hp
  generalize hpv : a.eval _ = pv at r1
  unfold unS wrapI at hu
  split at hu
  · cases r1
    split at hu <;> simp at hu
    all_goals subst hu
    all_goals exact out_pure R (by simp [execOp, hop, hpv, Op.unary, Op.intArith, Op.intBits]) (.sc (.int _ _))
  · cases r1
    split at hu <;> simp at hu
    all_goals subst hu
    all_goals exact out_pure R (by simp [execOp, hop, hpv, Op.unary]) (.sc (.bool _))
  · simp at hu

theorem run_und {t : TypeId} {d : TypeDesc} (h : P.underlying t = some d) (w : World) : (underlying t).run P w = .ok d w := by simp [underlying, h]
theorem run_sz {t : TypeId} {n : Nat} (h : szIs P t n = true) (w : World) : (sizeOf t).run P w = .ok n w := by
  unfold szIs at h
  split at h
  · rename_i i hi; simp at h; simp [sizeOf, typeInfo, hi, h]
  · simp at h
theorem run_agg {t : TypeId} {b : Bool} (h : aggIs P t b = true) (w : World) : (isAgg t).run P w = .ok b w := by
  unfold aggIs at h
  split at h
  · rename_i hu; subst h; simp [isAgg, run_und hu]
  · rename_i hu; subst h; simp [isAgg, run_und hu]
  · rename_i d h1 h2 hu
    simp at h; subst h
    simp only [isAgg, Sem.run_bind, run_und hu, Result.andThen_ok]
    cases d <;> first | rfl | exact absurd hu (h1 _) | exact absurd hu (h2 _ _)
  · simp at h

theorem equalIn_bool {t : TypeId} (hb : P.underlying t = some .bool) (d : Nat) (p q : Bool) (w : World) : (Op.equalIn (d + 1) t (.bool p) (.bool q)).run P w = .ok (p == q) w := by
  simp [Op.equalIn, run_und hb]

theorem eql_run {t : TypeId} {p q : Value} {r : Bool} (hb : (Op.equalIn (9999 + 1) t p q).run P w = .ok r w) (neg : Bool)
    (h1 : binOp .eql t p q = (do pure (.bool (← Op.equal t p q)))) (h2 : binOp .neq t p q = (do pure (.bool (!(← Op.equal t p q))))) :
    (binOp (if neg then .neq else .eql) t p q).run P w = .ok (.bool (if neg then !r else r)) w := by
  have hb' : (Op.equal t p q).run P w = .ok r w := hb
  cases neg
  · rw [show (if false = true then BinOp.neq else BinOp.eql) = BinOp.eql from rfl, h1]
    simp [hb']
  · rw [show (if true = true then BinOp.neq else BinOp.eql) = BinOp.neq from rfl, h2]
    simp [hb']

theorem s_beq {neg : Bool} {x y : AO} {o : Oper} {v : Option AV} {h' : Heap} (hok : okOp P (.beq neg x y) o.op = true) (hE : ERel β E a.tmps) (R : Rep β h w)
    (hs : step1 E h (.beq neg x y) = some (v, h')) : Out1 β h w ((execOp a.eval o).run P w) v h' := by
  cases hop : o.op <;> rw [hop] at hok <;> simp [okOp] at hok
  rename_i op' t x' y' t'
  obtain ⟨⟨⟨k1, k2⟩, k3⟩, k4⟩ := hok
  simp only [step1] at hs
  split at hs
  · rename_i p q hp hq
    simp at hs
    obtain ⟨rfl, rfl⟩ := hs
    have r1 := evS_rel k2 hE hp
    have r2 := evS_rel k3 hE hq
    have hg := eqGuard_run (P := P) op' t x' y' (u := a.eval x') (v := a.eval y') r1.one (.inl (r1.ne_nilI (by simp))) w
    generalize hpv : a.eval x' = pv at r1 hg
    generalize hqv : a.eval y' = qv at r2 hg
    cases r1; cases r2
    unfold boolIs at k4
    split at k4
    · rename_i hb
      have he := eql_run (equalIn_bool (P := P) hb 9999 p q w) neg rfl rfl
      rw [← k1] at he
      refine out_pure R ?_ (.sc (.bool _))
      simp only [execOp, hop, hpv, hqv, Sem.run_bind, hg, he, Result.andThen_ok]
      simp
    · simp at k4
  · simp at hs


theorem equalIn_nil {t : TypeId} {kd : Nat} (hk : kdIs P t kd = true) {x : SV} {p q : Value} (hx : SRel β x p) {b : Bool} (hb : nilS kd x = some b)
    (hq : (kd = 0 → q = .pointer none) ∧ (kd = 1 → q = .slice none 0 0) ∧ (kd = 2 → q = .nilFunc) ∧ (kd = 3 → q = .nilIface)) (d : Nat) (w : World) :
    (Op.equalIn (d + 1) t p q).run P w = .ok b w := by
  obtain ⟨q0, q1, q2, q3⟩ := hq
  unfold kdIs at hk
  split at hk <;> simp at hk
  all_goals
    rename_i hu
    subst hk
    cases hx <;> simp [nilS] at hb
    all_goals
      subst hb
      simp [Op.equalIn, run_und hu, q0, q1, q2, q3]

theorem binOp_nil {kd : Nat} {x : SV} {p q : Value} (hx : SRel β x p) {b : Bool} (hb : nilS kd x = some b)
    (hq : (kd = 0 → q = .pointer none) ∧ (kd = 1 → q = .slice none 0 0) ∧ (kd = 2 → q = .nilFunc) ∧ (kd = 3 → q = .nilIface)) (t : TypeId) :
    binOp .eql t p q = (do pure (.bool (← Op.equal t p q))) ∧ binOp .neq t p q = (do pure (.bool (!(← Op.equal t p q)))) := by
  obtain ⟨q0, q1, q2, q3⟩ := hq
  unfold nilS at hb
  cases hx <;> simp at hb
  · rw [q0 hb.1]; exact ⟨rfl, rfl⟩
  · rw [q0 hb.1]; exact ⟨rfl, rfl⟩
  · rw [q1 hb.1]; exact ⟨rfl, rfl⟩
  · rw [q1 hb.1]; exact ⟨rfl, rfl⟩
  · rw [q2 hb.1]; exact ⟨rfl, rfl⟩
  · rw [q2 hb.1]; exact ⟨rfl, rfl⟩
  · rw [q3 hb.1]; exact ⟨rfl, rfl⟩
  · rw [q3 hb.1]; exact ⟨rfl, rfl⟩

theorem s_isnil {kd : Nat} {neg : Bool} {x : AO} {o : Oper} {v : Option AV} {h' : Heap} (hok : okOp P (.isnil kd neg x) o.op = true) (hE : ERel β E a.tmps) (R : Rep β h w)
    (hs : step1 E h (.isnil kd neg x) = some (v, h')) : Out1 β h w ((execOp a.eval o).run P w) v h' := by
  cases hop : o.op <;> rw [hop] at hok <;> simp [okOp] at hok
  rename_i op' t x' y' t'
  obtain ⟨⟨⟨k1, k2⟩, k3⟩, k4⟩ := hok
  simp only [step1, Option.bind_eq_some_iff, Option.map_eq_some_iff, Prod.mk.injEq] at hs
  obtain ⟨p, hp, b, hb, rfl, rfl⟩ := hs
  have r1 := evS_rel k2 hE hp
  have hq : ∃ q, y' = .const q ∧ ((kd = 0 → q = .pointer none) ∧ (kd = 1 → q = .slice none 0 0) ∧ (kd = 2 → q = .nilFunc) ∧ (kd = 3 → q = .nilIface)) := by
    unfold nilK at k3
    split at k3 <;> simp at k3 <;> exact ⟨_, rfl, by subst k3; simp⟩
  obtain ⟨q, rfl, hq⟩ := hq
  have hqv : a.eval (.const q) = q := rfl
  have hg := eqGuard_run (P := P) op' t x' (.const q) (u := a.eval x') (v := q) r1.one (.inr (.inr ⟨_, rfl⟩)) w
  have he := eql_run (equalIn_nil (P := P) k4 r1 hb hq 9999 w) neg (binOp_nil r1 hb hq t).1 (binOp_nil r1 hb hq t).2
  rw [← k1] at he
  refine out_pure R ?_ (.sc (.bool _))
  simp only [execOp, hop, hqv, Sem.run_bind, hg, he, Result.andThen_ok]
  simp

theorem s_conv {k : IntKind} {x : AO} {o : Oper} {v : Option AV} {h' : Heap} (hok : okOp P (.conv k x) o.op = true) (hE : ERel β E a.tmps) (R : Rep β h w)
    (hs : step1 E h (.conv k x) = some (v, h')) : Out1 β h w ((execOp a.eval o).run P w) v h' := by
  cases hop : o.op <;> rw [hop] at hok <;> simp [okOp] at hok
  rename_i s d x'
  obtain ⟨k1, k2⟩ := hok
  simp only [step1] at hs
  split at hs
  · rename_i j n hp
    simp [wrapI] at hs
    obtain ⟨rfl, rfl⟩ := hs
    have r1 := evS_rel k1 hE hp
    generalize hpv : a.eval x' = pv at r1
    cases r1
    simp [cvIs, Option.isSome_iff_exists] at k2
    obtain ⟨⟨d1, hd1⟩, k2⟩ := k2
    split at k2
    · rename_i j' hd2
      simp at k2; subst k2
      refine out_pure R ?_ (.sc (.int _ _))
      simp [execOp, hop, hpv, convert, run_und hd1, run_und hd2, Conv.intToInt]
    · simp at k2
  · simp at hs

theorem elIs_some {t : TypeId} {f : TypeId → Bool} (h : elIs P t f = true) : ∃ e, P.underlying t = some (.slice e) ∧ f e = true := by
  unfold elIs at h
  split at h
  · exact ⟨_, by assumption, h⟩
  · simp at h
theorem arIs_some {t : TypeId} {n : Nat} {f : TypeId → Bool} (h : arIs P t n f = true) : ∃ e, P.underlying t = some (.array n e) ∧ f e = true := by
  unfold arIs at h
  split at h
  · rename_i m e hu; simp at h; obtain ⟨rfl, h⟩ := h; exact ⟨_, hu, h⟩
  · simp at h
theorem strIs_some {t : TypeId} (h : strIs P t = true) : P.underlying t = some .string := by
  unfold strIs at h
  split at h
  · assumption
  · simp at h

theorem s_len {str : Bool} {x : AO} {o : Oper} {v : Option AV} {h' : Heap} (hok : okOp P (.len str x) o.op = true) (hE : ERel β E a.tmps) (R : Rep β h w)
    (hs : step1 E h (.len str x) = some (v, h')) : Out1 β h w ((execOp a.eval o).run P w) v h' := by
  cases hop : o.op <;> rw [hop] at hok <;> simp [okOp] at hok
  rename_i c
  obtain ⟨callee, args, argTypes⟩ := c
  split at hok
  · rename_i x' t hc ha ht
    simp at hc ha ht
    have ha' : args = #[x'] := by rw [← Array.toArray_toList (xs := args), ha]
    have ht' : argTypes = #[t] := by rw [← Array.toArray_toList (xs := argTypes), ht]
    subst hc ha' ht'
    simp at hok
    obtain ⟨k1, k2⟩ := hok
    simp only [step1, Option.bind_eq_some_iff, Option.map_eq_some_iff, Prod.mk.injEq] at hs
    obtain ⟨p, hp, n, hn, rfl, rfl⟩ := hs
    have r1 := evS_rel k1 hE hp
    generalize hpv : a.eval x' = pv at r1
    refine out_pure R ?_ (.sc (.int _ _))
    unfold lenS at hn
    cases str
    · simp at k2
      obtain ⟨e, hu, -⟩ := elIs_some k2
      split at hn <;> simp at hn
      all_goals
        subst hn
        cases r1
        simp [execOp, hop, hpv, resolve, invoke, builtin, Builtin.len_, run_und hu, goInt]
    · simp at k2
      have hu := strIs_some k2
      split at hn <;> simp at hn
      subst hn
      cases r1
      simp [execOp, hop, hpv, resolve, invoke, builtin, Builtin.len_, run_und hu, goInt]
  · simp at hok

end Go.Ab
