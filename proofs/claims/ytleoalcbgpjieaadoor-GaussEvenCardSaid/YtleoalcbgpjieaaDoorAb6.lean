import Derived.Test.YtleoalcbgpjieaaDoorAb4
import Derived.ChangeKeysEq
import Derived.LaidEql
import Derived.Laws.StructEq
import Derived.Laws.Externs
import Derived.KernelRfl
/- Each operation does in the model what it does here. -/
namespace Go.Ab
variable [Base]
set_option linter.unusedSectionVars false

def Out1 (β : Bt) (h : Heap) (w : World) (r : Result Next) (v : Option AV) (h' : Heap) : Prop :=
  ∃ β' w', Stp β h w β' h' w' ∧ Rep β' h' w' ∧ match v with
    | some u => ∃ c, r = .ok (.value c) w' ∧ ARel β' u c
    | none => r = .ok .skip w'

set_option linter.unusedVariables false
variable {P : Program} {β : Bt} {E : Env} {h : Heap} {w : World} {a : Act}

theorem out_pure {r : Result Next} {u : AV} {c : Value} (R : Rep β h w) (hr : r = .ok (.value c) w) (hc : ARel β u c) : Out1 β h w r (some u) h :=
  ⟨β, w, Stp.refl _ _ _, R, c, hr, hc⟩

theorem binI_run {op : BinOp} {k : IntKind} {x y : Int} {v : SV} (hs : isShift op = false) (h : binI op k x y = some v) (w : World) :
    ∃ c, (binOp op 0 (.int k x) (.int k y)).run P w = .ok c w ∧ SRel β v c := by
  unfold binI wrapI at h
  cases op <;> simp only [Option.some.injEq] at h
  case quo =>
    split at h
    · simp at h
    · simp at h; subst h
      refine ⟨_, ?_, .int _ _⟩
      simp [binOp, Op.intDiv, *]
  case rem =>
    split at h
    · simp at h
    · simp at h; subst h
      refine ⟨_, ?_, .int _ _⟩
      simp [binOp, Op.intDiv, *]
  all_goals first
    | (subst h; refine ⟨_, ?_, .int _ _⟩; simp [binOp, Op.intArith, Op.intBits]; done)
    | (subst h; refine ⟨_, ?_, .bool _⟩; simp [binOp, Op.intCmp]; done)
    | (simp at h; done)
    | (simp [isShift] at hs; done)

theorem shI_run {op : BinOp} {k j : IntKind} {x y : Int} {v : SV} (h : shI op k x y = some v) (w : World) :
    ∃ c, (binOp op 0 (.int k x) (.int j y)).run P w = .ok c w ∧ SRel β v c := by
  unfold shI wrapI at h
  split at h
  · simp at h
  · split at h
    · simp at h; subst h
      refine ⟨_, ?_, .int _ _⟩
      simp [binOp, Op.shift, *]
    · simp at h; subst h
      refine ⟨_, ?_, .int _ _⟩
      simp [binOp, Op.shift, *]
    · simp at h

theorem binT_run {op : BinOp} {x y : ByteArray} {v : SV} (h : binT op x y = some v) (w : World) :
    ∃ c, (binOp op 0 (.string x) (.string y)).run P w = .ok c w ∧ SRel β v c := by
  unfold binT at h
  cases op <;> simp only [Option.some.injEq] at h
  case add =>
    split at h
    · rename_i hle
      simp at h; subst h
      refine ⟨_, ?_, .str _⟩
      have : ¬ (((x.size + y.size : Nat) : Int) > IntKind.i64.max) := by
        have : IntKind.i64.max = 9223372036854775807 := by decide
        omega
      simp [binOp, Op.stringOp] at this ⊢
      exact this
    · simp at h
  all_goals first
    | (subst h; refine ⟨_, ?_, .bool _⟩; simp [binOp, Op.stringOp]; done)
    | (simp at h; done)

theorem binOp_type (op : BinOp) (t : TypeId) (x y : Value) (h : (∃ k m j n, x = .int k m ∧ y = .int j n) ∨ (∃ s u, x = .string s ∧ y = .string u)) : binOp op t x y = binOp op 0 x y := by
  rcases h with ⟨k, m, j, n, rfl, rfl⟩ | ⟨s, u, rfl, rfl⟩
  · cases op <;> rfl
  · cases op <;> rfl

theorem eqGuard_run (op : BinOp) (t : TypeId) (x y : Operand) {u v : Value} (hu : u.oneCell' = true) (hn : u ≠ .nilIface ∨ v ≠ .nilIface ∨ (∃ c, y = .const c)) (w : World) :
    (eqGuard op t x y u v).run P w = .ok () w := by
  have key : ∀ op', op' = BinOp.eql ∨ op' = BinOp.neq → (eqGuard op' t x y u v).run P w = .ok () w := by
    intro op' hop
    cases u <;> try (rcases hop with rfl | rfl <;> rfl)
    · cases v <;> try (rcases hop with rfl | rfl <;> rfl)
      rcases hn with h | h | ⟨c, rfl⟩
      · exact absurd rfl h
      · exact absurd rfl h
      · rcases hop with rfl | rfl <;> simp [eqGuard]
    · simp [Value.oneCell'] at hu
  cases op <;> first | rfl | exact key _ (.inl rfl) | exact key _ (.inr rfl)

theorem binS_sound {op : BinOp} {x y v : SV} {p q : Value} (hx : SRel β x p) (hy : SRel β y q) (hv : binS op x y = some v) (t : TypeId) (w : World) :
    ∃ c, (binOp op t p q).run P w = .ok c w ∧ SRel β v c := by
  unfold binS at hv
  split at hv
  · cases hx; cases hy
    rw [binOp_type op t _ _ (.inl ⟨_, _, _, _, rfl, rfl⟩)]
    split at hv
    · exact shI_run hv w
    · split at hv
      · rename_i hk; subst hk; exact binI_run (by simp_all) hv w
      · simp at hv
  · cases hx; cases hy
    rw [binOp_type op t _ _ (.inr ⟨_, _, rfl, rfl⟩)]
    exact binT_run hv w
  · simp at hv

theorem binS_one {op : BinOp} {x y v : SV} (hv : binS op x y = some v) : (∃ k n, x = .int k n) ∨ ∃ s, x = .str s := by
  unfold binS at hv
  split at hv
  · exact .inl ⟨_, _, rfl⟩
  · exact .inr ⟨_, rfl⟩
  · simp at hv


theorem SRel.ne_nilI {x : SV} {v : Value} (h : SRel β x v) (hx : x ≠ .nilI) : v ≠ .nilIface := by
  cases h <;> simp at hx ⊢

theorem evS_some {x : AO} {s : SV} (h : ev E x = some (.sc s)) : evS E x = some s := by simp [evS, h]

theorem exec_value {o : Oper} {r : Sem Value} {c : Value} {w' : World} (ho : execOp a.eval o = (do pure (.value (← r)))) (hr : r.run P w = .ok c w') :
    (execOp a.eval o).run P w = .ok (.value c) w' := by rw [ho]; simp [hr]

theorem s_mv {x : AO} {o : Oper} {v : Option AV} {h' : Heap} (hok : okOp P (.mv x) o.op = true) (hE : ERel β E a.tmps) (R : Rep β h w)
    (hs : step1 E h (.mv x) = some (v, h')) : Out1 β h w ((execOp a.eval o).run P w) v h' := by
  simp only [step1, Option.map_eq_some_iff, Prod.mk.injEq] at hs
  obtain ⟨u, hu, rfl, rfl⟩ := hs
  cases hop : o.op <;> rw [hop] at hok <;> simp [okOp] at hok
  all_goals exact out_pure R (by simp [execOp, hop]) (ev_rel hok hE hu)

theorem s_pick {c x y : AO} {o : Oper} {v : Option AV} {h' : Heap} (hok : okOp P (.pick c x y) o.op = true) (hE : ERel β E a.tmps) (R : Rep β h w)
    (hs : step1 E h (.pick c x y) = some (v, h')) : Out1 β h w ((execOp a.eval o).run P w) v h' := by
  cases hop : o.op <;> rw [hop] at hok <;> simp [okOp] at hok
  obtain ⟨⟨k1, k2⟩, k3⟩ := hok
  simp only [step1] at hs
  split at hs
  case h_2 => simp at hs
  rename_i t hc
  cases t <;> simp only [if_true, Bool.false_eq_true, if_false] at hs
  all_goals first
    | (simp at hs; done)
    | (simp only [Option.map_eq_some_iff, Prod.mk.injEq] at hs
       obtain ⟨u, hu, rfl, rfl⟩ := hs
       have hcr := evS_rel k1 hE hc
       generalize hcv : a.eval _ = cv at hcr
       cases hcr
       first
         | exact out_pure R (by simp [execOp, hop, hcv, asBool]) (ev_rel k2 hE hu)
         | exact out_pure R (by simp [execOp, hop, hcv, asBool]) (ev_rel k3 hE hu))

theorem s_bin {op : BinOp} {x y : AO} {o : Oper} {v : Option AV} {h' : Heap} (hok : okOp P (.bin op x y) o.op = true) (hE : ERel β E a.tmps) (R : Rep β h w)
    (hs : step1 E h (.bin op x y) = some (v, h')) : Out1 β h w ((execOp a.eval o).run P w) v h' := by
  cases hop : o.op <;> rw [hop] at hok <;> simp [okOp] at hok
  rename_i t x' y' t'
  obtain ⟨⟨rfl, k2⟩, k3⟩ := hok
  simp only [step1, Option.bind_eq_some_iff, Option.map_eq_some_iff, Prod.mk.injEq] at hs
  obtain ⟨p, hp, q, hq, u, hu, rfl, rfl⟩ := hs
  have r1 := evS_rel k2 hE hp
  have r2 := evS_rel k3 hE hq
  obtain ⟨c, h1, h2⟩ := binS_sound r1 r2 hu t w (P := P)
  have hg := eqGuard_run (P := P) op t x' y' (u := a.eval x') (v := a.eval y') r1.one (by
    rcases binS_one hu with ⟨k, n, rfl⟩ | ⟨s, rfl⟩
    · exact .inl (r1.ne_nilI (by simp))
    · exact .inl (r1.ne_nilI (by simp))) w
  exact out_pure R (by simp [execOp, hop, hg, h1]) (.sc h2)

theorem s_un {op : UnOp} {x : AO} {o : Oper} {v : Option AV} {h' : Heap} (hok : okOp P (.un op x) o.op = true) (hE : ERel β E a.tmps) (R : Rep β h w)
    (hs : step1 E h (.un op x) = some (v, h')) : Out1 β h w ((execOp a.eval o).run P w) v h' := by
  cases hop : o.op <;> rw [hop] at hok <;> simp [okOp] at hok
  obtain ⟨rfl, k2⟩ := hok
  simp only [step1, Option.bind_eq_some_iff, Option.map_eq_some_iff, Prod.mk.injEq] at hs
  obtain ⟨p, hp, u, hu, rfl, rfl⟩ := hs
  have r1 := evS_rel k2 hE hp
  generalize hpv : a.eval _ = pv at r1
  unfold unS wrapI at hu
  split at hu
  · cases r1
    split at hu <;> simp at hu
    all_goals subst hu
    all_goals exact out_pure R (by simp [execOp, hop, hpv, Op.unary, Op.intArith, Op.intBits]) (.sc (.int _ _))
  · cases r1
    split at hu <;> simp at hu
    all_goals subst hu
    all_goals exact out_pure R (by simp [execOp, hop, hpv, Op.unary]) (.sc (.bool _))
  · simp at hu

theorem run_und {t : TypeId} {d : TypeDesc} (h : P.underlying t = some d) (w : World) : (underlying t).run P w = .ok d w := by simp [underlying, h]
theorem run_sz {t : TypeId} {n : Nat} (h : szIs P t n = true) (w : World) : (sizeOf t).run P w = .ok n w := by
  unfold szIs at h
  split at h
  · rename_i i hi; simp at h; simp [sizeOf, typeInfo, hi, h]
  · simp at h
theorem run_agg {t : TypeId} {b : Bool} (h : aggIs P t b = true) (w : World) : (isAgg t).run P w = .ok b w := by
  unfold aggIs at h
  split at h
  · rename_i hu; subst h; simp [isAgg, run_und hu]
  · rename_i hu; subst h; simp [isAgg, run_und hu]
  · rename_i d h1 h2 hu
    simp at h; subst h
    simp only [isAgg, Sem.run_bind, run_und hu, Result.andThen_ok]
    cases d <;> first | rfl | exact absurd hu (h1 _) | exact absurd hu (h2 _ _)
  · simp at h

theorem equalIn_bool {t : TypeId} (hb : P.underlying t = some .bool) (d : Nat) (p q : Bool) (w : World) : (Op.equalIn (d + 1) t (.bool p) (.bool q)).run P w = .ok (p == q) w := by
  simp [Op.equalIn, run_und hb]

theorem eql_run {t : TypeId} {p q : Value} {r : Bool} (hb : (Op.equalIn (9999 + 1) t p q).run P w = .ok r w) (neg : Bool)
    (h1 : binOp .eql t p q = (do pure (.bool (← Op.equal t p q)))) (h2 : binOp .neq t p q = (do pure (.bool (!(← Op.equal t p q))))) :
    (binOp (if neg then .neq else .eql) t p q).run P w = .ok (.bool (if neg then !r else r)) w := by
  have hb' : (Op.equal t p q).run P w = .ok r w := hb
  cases neg
  · rw [show (if false = true then BinOp.neq else BinOp.eql) = BinOp.eql from rfl, h1]
    simp [hb']
  · rw [show (if true = true then BinOp.neq else BinOp.eql) = BinOp.neq from rfl, h2]
    simp [hb']

theorem s_beq {neg : Bool} {x y : AO} {o : Oper} {v : Option AV} {h' : Heap} (hok : okOp P (.beq neg x y) o.op = true) (hE : ERel β E a.tmps) (R : Rep β h w)
    (hs : step1 E h (.beq neg x y) = some (v, h')) : Out1 β h w ((execOp a.eval o).run P w) v h' := by
  cases hop : o.op <;> rw [hop] at hok <;> simp [okOp] at hok
  rename_i op' t x' y' t'
  obtain ⟨⟨⟨k1, k2⟩, k3⟩, k4⟩ := hok
  simp only [step1] at hs
  split at hs
  · rename_i p q hp hq
    simp at hs
    obtain ⟨rfl, rfl⟩ := hs
    have r1 := evS_rel k2 hE hp
    have r2 := evS_rel k3 hE hq
    have hg := eqGuard_run (P := P) op' t x' y' (u := a.eval x') (v := a.eval y') r1.one (.inl (r1.ne_nilI (by simp))) w
    generalize hpv : a.eval x' = pv at r1 hg
    generalize hqv : a.eval y' = qv at r2 hg
    cases r1; cases r2
    unfold boolIs at k4
    split at k4
    · rename_i hb
      have he := eql_run (equalIn_bool (P := P) hb 9999 p q w) neg rfl rfl
      rw [← k1] at he
      refine out_pure R ?_ (.sc (.bool _))
      simp only [execOp, hop, hpv, hqv, Sem.run_bind, hg, he, Result.andThen_ok]
      simp
    · simp at k4
  · simp at hs


theorem equalIn_nil {t : TypeId} {kd : Nat} (hk : kdIs P t kd = true) {x : SV} {p q : Value} (hx : SRel β x p) {b : Bool} (hb : nilS kd x = some b)
    (hq : (kd = 0 → q = .pointer none) ∧ (kd = 1 → q = .slice none 0 0) ∧ (kd = 2 → q = .nilFunc) ∧ (kd = 3 → q = .nilIface)) (d : Nat) (w : World) :
    (Op.equalIn (d + 1) t p q).run P w = .ok b w := by
  obtain ⟨q0, q1, q2, q3⟩ := hq
  unfold kdIs at hk
  split at hk <;> simp at hk
  all_goals
    rename_i hu
    subst hk
    cases hx <;> simp [nilS] at hb
    all_goals
      subst hb
      simp [Op.equalIn, run_und hu, q0, q1, q2, q3]

theorem binOp_nil {kd : Nat} {x : SV} {p q : Value} (hx : SRel β x p) {b : Bool} (hb : nilS kd x = some b)
    (hq : (kd = 0 → q = .pointer none) ∧ (kd = 1 → q = .slice none 0 0) ∧ (kd = 2 → q = .nilFunc) ∧ (kd = 3 → q = .nilIface)) (t : TypeId) :
    binOp .eql t p q = (do pure (.bool (← Op.equal t p q))) ∧ binOp .neq t p q = (do pure (.bool (!(← Op.equal t p q)))) := by
  obtain ⟨q0, q1, q2, q3⟩ := hq
  unfold nilS at hb
  cases hx <;> simp at hb
  · rw [q0 hb.1]; exact ⟨rfl, rfl⟩
  · rw [q0 hb.1]; exact ⟨rfl, rfl⟩
  · rw [q1 hb.1]; exact ⟨rfl, rfl⟩
  · rw [q1 hb.1]; exact ⟨rfl, rfl⟩
  · rw [q2 hb.1]; exact ⟨rfl, rfl⟩
  · rw [q2 hb.1]; exact ⟨rfl, rfl⟩
  · rw [q3 hb.1]; exact ⟨rfl, rfl⟩
  · rw [q3 hb.1]; exact ⟨rfl, rfl⟩

theorem s_isnil {kd : Nat} {neg : Bool} {x : AO} {o : Oper} {v : Option AV} {h' : Heap} (hok : okOp P (.isnil kd neg x) o.op = true) (hE : ERel β E a.tmps) (R : Rep β h w)
    (hs : step1 E h (.isnil kd neg x) = some (v, h')) : Out1 β h w ((execOp a.eval o).run P w) v h' := by
  cases hop : o.op <;> rw [hop] at hok <;> simp [okOp] at hok
  rename_i op' t x' y' t'
  obtain ⟨⟨⟨k1, k2⟩, k3⟩, k4⟩ := hok
  simp only [step1, Option.bind_eq_some_iff, Option.map_eq_some_iff, Prod.mk.injEq] at hs
  obtain ⟨p, hp, b, hb, rfl, rfl⟩ := hs
  have r1 := evS_rel k2 hE hp
  have hq : ∃ q, y' = .const q ∧ ((kd = 0 → q = .pointer none) ∧ (kd = 1 → q = .slice none 0 0) ∧ (kd = 2 → q = .nilFunc) ∧ (kd = 3 → q = .nilIface)) := by
    unfold nilK at k3
    split at k3 <;> simp at k3 <;> exact ⟨_, rfl, by subst k3; simp⟩
  obtain ⟨q, rfl, hq⟩ := hq
  have hqv : a.eval (.const q) = q := rfl
  have hg := eqGuard_run (P := P) op' t x' (.const q) (u := a.eval x') (v := q) r1.one (.inr (.inr ⟨_, rfl⟩)) w
  have he := eql_run (equalIn_nil (P := P) k4 r1 hb hq 9999 w) neg (binOp_nil r1 hb hq t).1 (binOp_nil r1 hb hq t).2
  rw [← k1] at he
  refine out_pure R ?_ (.sc (.bool _))
  simp only [execOp, hop, hqv, Sem.run_bind, hg, he, Result.andThen_ok]
  simp

theorem s_conv {k : IntKind} {x : AO} {o : Oper} {v : Option AV} {h' : Heap} (hok : okOp P (.conv k x) o.op = true) (hE : ERel β E a.tmps) (R : Rep β h w)
    (hs : step1 E h (.conv k x) = some (v, h')) : Out1 β h w ((execOp a.eval o).run P w) v h' := by
  cases hop : o.op <;> rw [hop] at hok <;> simp [okOp] at hok
  rename_i s d x'
  obtain ⟨k1, k2⟩ := hok
  simp only [step1] at hs
  split at hs
  · rename_i j n hp
    simp [wrapI] at hs
    obtain ⟨rfl, rfl⟩ := hs
    have r1 := evS_rel k1 hE hp
    generalize hpv : a.eval x' = pv at r1
    cases r1
    simp [cvIs, Option.isSome_iff_exists] at k2
    obtain ⟨⟨d1, hd1⟩, k2⟩ := k2
    split at k2
    · rename_i j' hd2
      simp at k2; subst k2
      refine out_pure R ?_ (.sc (.int _ _))
      simp [execOp, hop, hpv, convert, run_und hd1, run_und hd2, Conv.intToInt]
    · simp at k2
  · simp at hs

theorem elIs_some {t : TypeId} {f : TypeId → Bool} (h : elIs P t f = true) : ∃ e, P.underlying t = some (.slice e) ∧ f e = true := by
  unfold elIs at h
  split at h
  · exact ⟨_, by assumption, h⟩
  · simp at h
theorem arIs_some {t : TypeId} {n : Nat} {f : TypeId → Bool} (h : arIs P t n f = true) : ∃ e, P.underlying t = some (.array n e) ∧ f e = true := by
  unfold arIs at h
  split at h
  · rename_i m e hu; simp at h; obtain ⟨rfl, h⟩ := h; exact ⟨_, hu, h⟩
  · simp at h
theorem strIs_some {t : TypeId} (h : strIs P t = true) : P.underlying t = some .string := by
  unfold strIs at h
  split at h
  · assumption
  · simp at h

theorem s_len {str : Bool} {x : AO} {o : Oper} {v : Option AV} {h' : Heap} (hok : okOp P (.len str x) o.op = true) (hE : ERel β E a.tmps) (R : Rep β h w)
    (hs : step1 E h (.len str x) = some (v, h')) : Out1 β h w ((execOp a.eval o).run P w) v h' := by
  cases hop : o.op <;> rw [hop] at hok <;> simp [okOp] at hok
  rename_i c
  obtain ⟨callee, args, argTypes⟩ := c
  split at hok
  · rename_i x' t hc ha ht
    simp at hc ha ht
    have ha' : args = #[x'] := by rw [← Array.toArray_toList (xs := args), ha]
    have ht' : argTypes = #[t] := by rw [← Array.toArray_toList (xs := argTypes), ht]
    subst hc ha' ht'
    simp at hok
    obtain ⟨k1, k2⟩ := hok
    simp only [step1, Option.bind_eq_some_iff, Option.map_eq_some_iff, Prod.mk.injEq] at hs
    obtain ⟨p, hp, n, hn, rfl, rfl⟩ := hs
    have r1 := evS_rel k1 hE hp
    generalize hpv : a.eval x' = pv at r1
    refine out_pure R ?_ (.sc (.int _ _))
    unfold lenS at hn
    cases str
    · simp at k2
      obtain ⟨e, hu, -⟩ := elIs_some k2
      split at hn <;> simp at hn
      all_goals
        subst hn
        cases r1
        simp [execOp, hop, hpv, resolve, invoke, builtin, Builtin.len_, run_und hu, goInt]
    · simp at k2
      have hu := strIs_some k2
      split at hn <;> simp at hn
      subst hn
      cases r1
      simp [execOp, hop, hpv, resolve, invoke, builtin, Builtin.len_, run_und hu, goInt]
  · simp at hok

end Go.Ab


/- Each operation does in the model what it does here: memory read, aggregates. -/
namespace Go.Ab
variable [Base]
set_option linter.unusedSectionVars false
set_option linter.unusedVariables false
variable {P : Program} {β : Bt} {E : Env} {h : Heap} {w : World} {a : Act}

theorem mm2_run {mx : Bool} {x y v : SV} {p q : Value} (hx : SRel β x p) (hy : SRel β y q) (hv : mm2 mx x y = some v) (w : World) :
    ∃ c, ((if mx then Builtin.max2 else Builtin.min2) p q).run P w = .ok c w ∧ SRel β v c := by
  unfold mm2 at hv
  split at hv
  · cases hx; cases hy
    split at hv
    · rename_i hk; subst hk
      simp at hv; subst hv
      refine ⟨_, ?_, .int _ _⟩
      cases mx
      · simp [Builtin.min2]
      · simp [Builtin.max2]
    · simp at hv
  · simp at hv

theorem mmL_run {mx : Bool} : ∀ {ys : List SV} {x v : SV} {p : Value} {qs : List Value}, SRel β x p → F2 (SRel β) ys qs → mmL mx x ys = some v → ∀ w : World,
    ∃ c, (qs.foldlM (if mx then Builtin.max2 else Builtin.min2) p : Sem Value).run P w = .ok c w ∧ SRel β v c
  | [], x, v, p, qs, hx, hy, hv, w => by
    cases hy
    simp [mmL] at hv; subst hv
    exact ⟨p, by simp, hx⟩
  | y :: ys, x, v, p, qs, hx, hy, hv, w => by
    cases hy with
    | cons h1 h2 =>
      simp only [mmL, Option.bind_eq_some_iff] at hv
      obtain ⟨z, hz, hv⟩ := hv
      obtain ⟨c, e1, e2⟩ := mm2_run (P := P) hx h1 hz w
      obtain ⟨c', e3, e4⟩ := mmL_run e2 h2 hv w
      exact ⟨c', by simp [e1, e3], e4⟩

theorem s_mm {mx : Bool} {x : AO} {ys : List AO} {o : Oper} {v : Option AV} {h' : Heap} (hok : okOp P (.mm mx x ys) o.op = true) (hE : ERel β E a.tmps) (R : Rep β h w)
    (hs : step1 E h (.mm mx x ys) = some (v, h')) : Out1 β h w ((execOp a.eval o).run P w) v h' := by
  cases hop : o.op <;> rw [hop] at hok <;> simp [okOp] at hok
  rename_i c
  obtain ⟨callee, args, argTypes⟩ := c
  simp only [step1, Option.bind_eq_some_iff, Option.map_eq_some_iff, Prod.mk.injEq] at hs
  obtain ⟨p, hp, qs, hq, z, hz, rfl, rfl⟩ := hs
  split at hok
  all_goals first
    | (simp at hok; done)
    | (rename_i x' ys' hc ha
       simp at hc ha
       have ha' : args = (x' :: ys').toArray := by rw [← ha]
       subst hc ha'
       simp at hok
       obtain ⟨⟨rfl, k2⟩, k3⟩ := hok
       have r1 := evS_rel k2 hE hp
       have r2 := evSs_rel hE k3 hq
       obtain ⟨c, e1, e2⟩ := mmL_run (P := P) r1 r2 hz w
       refine out_pure R ?_ (.sc e2)
       simp at e1
       simp [execOp, hop, resolve, invoke, builtin, Builtin.max_, Builtin.min_, e1])

theorem s_idxA {esz : Nat} {x i : AO} {o : Oper} {v : Option AV} {h' : Heap} (hok : okOp P (.idxA esz x i) o.op = true) (hE : ERel β E a.tmps) (R : Rep β h w)
    (hs : step1 E h (.idxA esz x i) = some (v, h')) : Out1 β h w ((execOp a.eval o).run P w) v h' := by
  cases hop : o.op <;> rw [hop] at hok <;> simp [okOp] at hok
  rename_i t x' i'
  obtain ⟨⟨k1, k2⟩, k3⟩ := hok
  obtain ⟨e, hu, hsz⟩ := elIs_some k3
  simp only [step1] at hs
  split at hs
  · rename_i id off n cap k j hp hq
    split at hs
    · rename_i hj
      simp at hs
      obtain ⟨rfl, rfl⟩ := hs
      have r1 := evS_rel k1 hE hp
      have r2 := evS_rel k2 hE hq
      generalize hpv : a.eval x' = pv at r1
      generalize hqv : a.eval i' = qv at r2
      cases r2
      cases r1 with
      | slc hL hc hl ho hb hn =>
        rename_i L c' ad
        refine out_pure R ?_ (.sc (.ptr hL hn))
        have := ho (by omega)
        subst this
        simp [execOp, hop, hpv, hqv, Instr.indexAt, asIntOf, run_und hu, hj, run_sz hsz, Addr.add_off, Nat.add_assoc]
    · simp at hs
  · simp at hs

theorem s_idxP {n esz : Nat} {x i : AO} {o : Oper} {v : Option AV} {h' : Heap} (hok : okOp P (.idxP n esz x i) o.op = true) (hE : ERel β E a.tmps) (R : Rep β h w)
    (hs : step1 E h (.idxP n esz x i) = some (v, h')) : Out1 β h w ((execOp a.eval o).run P w) v h' := by
  cases hop : o.op <;> rw [hop] at hok <;> simp [okOp] at hok
  rename_i t x' i'
  obtain ⟨⟨k1, k2⟩, k3⟩ := hok
  obtain ⟨e, hu, hsz⟩ := arIs_some k3
  simp only [step1] at hs
  split at hs
  · rename_i id off k j hp hq
    split at hs
    · rename_i hj
      simp at hs
      obtain ⟨rfl, rfl⟩ := hs
      have r1 := evS_rel k1 hE hp
      have r2 := evS_rel k2 hE hq
      generalize hpv : a.eval x' = pv at r1
      generalize hqv : a.eval i' = qv at r2
      cases r2
      cases r1 with
      | ptr hL hn =>
        refine out_pure R ?_ (.sc (.ptr hL hn))
        simp [execOp, hop, hpv, hqv, Instr.indexAt, Instr.sureAddr, asIntOf, run_und hu, hj, run_sz hsz, Addr.add_off, Nat.add_assoc]
    · simp at hs
  · simp at hs

theorem s_idxS {x i : AO} {o : Oper} {v : Option AV} {h' : Heap} (hok : okOp P (.idxS x i) o.op = true) (hE : ERel β E a.tmps) (R : Rep β h w)
    (hs : step1 E h (.idxS x i) = some (v, h')) : Out1 β h w ((execOp a.eval o).run P w) v h' := by
  cases hop : o.op <;> rw [hop] at hok <;> simp [okOp] at hok
  rename_i t x' i'
  obtain ⟨⟨k1, k2⟩, k3⟩ := hok
  have hu := strIs_some k3
  simp only [step1] at hs
  split at hs
  · rename_i s k j hp hq
    split at hs
    · rename_i hj
      simp only [Option.map_eq_some_iff, Prod.mk.injEq] at hs
      obtain ⟨b, hb, rfl, rfl⟩ := hs
      have r1 := evS_rel k1 hE hp
      have r2 := evS_rel k2 hE hq
      generalize hpv : a.eval x' = pv at r1
      generalize hqv : a.eval i' = qv at r2
      cases r2
      cases r1
      refine out_pure R ?_ (.sc (.int _ _))
      simp [execOp, hop, hpv, hqv, Instr.index, asIntOf, run_und hu, hj, hb]
    · simp at hs
  · simp at hs

/-- A part of an aggregate. -/
theorem part_run {t : TypeId} {n : Nat} {agg : Bool} {cs : List SV} {vs : List Value} (hr : F2 (SRel β) cs vs) (hsz : szIs P t n = true) (hag : aggIs P t agg = true) {off : Nat} {us : List SV} {u : AV}
    (hc : cut cs off n = some us) (hu : cellsAV agg us = some u) (w : World) : ∃ c, (part t vs.toArray off).run P w = .ok c w ∧ ARel β u c := by
  obtain ⟨h1, h2, h3⟩ := cut_some hc
  have hcut : us = (cs.drop off).take n := by
    unfold cut at hc; rw [if_pos h1] at hc; simpa using hc.symm
  unfold cellsAV at hu
  split at hu
  · rename_i ha; subst ha
    simp at hu; subst hu
    refine ⟨.agg (vs.toArray.extract off (off + n)), by simp [part, run_agg hag, run_sz hsz], ?_⟩
    have : vs.toArray.extract off (off + n) = ((vs.drop off).take n).toArray := by
      simp [List.extract_toArray, List.extract_eq_take_drop]
    rw [this]
    subst hcut
    exact .agg ((hr.drop off).take n)
  · rename_i ha
    simp at ha; subst ha
    split at hu
    · simp at hu; subst hu
      obtain ⟨_, hx⟩ := h3 0 _ rfl
      obtain ⟨c, hc', hr'⟩ := hr.get hx
      simp at hc'
      exact ⟨c, by simp [part, run_agg hag, hc'], .sc hr'⟩
    · simp at hu

theorem s_idxG {n esz : Nat} {agg : Bool} {x i : AO} {o : Oper} {v : Option AV} {h' : Heap} (hok : okOp P (.idxG n esz agg x i) o.op = true) (hE : ERel β E a.tmps) (R : Rep β h w)
    (hs : step1 E h (.idxG n esz agg x i) = some (v, h')) : Out1 β h w ((execOp a.eval o).run P w) v h' := by
  cases hop : o.op <;> rw [hop] at hok <;> simp [okOp] at hok
  rename_i t x' i'
  obtain ⟨⟨k1, k2⟩, k3⟩ := hok
  obtain ⟨e, hu, hsz⟩ := arIs_some k3
  simp at hsz
  simp only [step1] at hs
  split at hs
  · rename_i cs k j hp hq
    split at hs
    · rename_i hj
      simp only [Option.bind_eq_some_iff, Option.map_eq_some_iff, Prod.mk.injEq] at hs
      obtain ⟨us, hus, u, hu', rfl, rfl⟩ := hs
      have r1 := ev_rel k1 hE hp
      have r2 := evS_rel k2 hE hq
      generalize hpv : a.eval x' = pv at r1
      generalize hqv : a.eval i' = qv at r2
      cases r2
      cases r1 with
      | agg hr =>
        obtain ⟨c, e1, e2⟩ := part_run (P := P) hr hsz.1 hsz.2 hus hu' w
        refine out_pure R ?_ e2
        simp [execOp, hop, hpv, hqv, Instr.index, asIntOf, run_und hu, hj, run_sz hsz.1, e1]
    · simp at hs
  · simp at hs

theorem intIs_some {t : TypeId} (h : intIs P t = true) : ∃ k, P.underlying t = some (.int k) := by
  unfold intIs at h
  split at h
  · exact ⟨_, by assumption⟩
  · simp at h

theorem eqItems_ints (d : Nat) {e : TypeId} {k0 : IntKind} (he : P.underlying e = some (.int k0)) (hag : aggIs P e false = true) (xs ys : Array Value) : ∀ (as bs : List SV) (s : Nat) (r : Bool),
    (∀ i v, as[i]? = some v → ∃ c, xs[s + i]? = some c ∧ SRel β v c) → (∀ i v, bs[i]? = some v → ∃ c, ys[s + i]? = some c ∧ SRel β v c) → eqInts as bs = some r →
    (Op.eqItems (d + 1) e 1 xs ys (List.range' s as.length)).run P w = .ok r w
  | [], [], s, r, _, _, h => by simp [eqInts] at h; subst h; simp [Op.eqItems]
  | .int k x :: as, .int j y :: bs, s, r, h1, h2, h => by
    simp only [eqInts] at h
    split at h
    · rename_i hk; subst hk
      simp only [Option.map_eq_some_iff] at h
      obtain ⟨r', hr', rfl⟩ := h
      obtain ⟨c1, q1, q2⟩ := h1 0 _ rfl
      obtain ⟨c2, q3, q4⟩ := h2 0 _ rfl
      cases q2; cases q4
      have ih := eqItems_ints d he hag xs ys as bs (s + 1) r' (fun i v hi => by
        have := h1 (i + 1) v (by simpa using hi)
        rwa [show s + (i + 1) = s + 1 + i by omega] at this) (fun i v hi => by
        have := h2 (i + 1) v (by simpa using hi)
        rwa [show s + (i + 1) = s + 1 + i by omega] at this) hr'
      simp only [Nat.add_zero] at q1 q3
      have p1 : (part e xs (s * 1)).run P w = .ok (.int k x) w := by simp [part, run_agg hag, q1]
      have p2 : (part e ys (s * 1)).run P w = .ok (.int k y) w := by simp [part, run_agg hag, q3]
      have p3 : (Op.equalIn (d + 1) e (.int k x) (.int k y)).run P w = .ok (x == y) w := by simp [Op.equalIn, run_und he]
      simp only [List.length_cons, List.range'_succ, Op.eqItems, Sem.run_bind, p1, p2, p3, Result.andThen_ok]
      by_cases hxy : x = y
      · subst hxy
        simpa using ih
      · have : (x == y) = false := by simpa using hxy
        simp [this, hxy]
    · simp at h
  | [], _ :: _, _, _, _, _, h => by simp [eqInts] at h
  | _ :: _, [], _, _, _, _, h => by
    rename_i a as s r h1 h2
    cases a <;> simp [eqInts] at h
  | .int _ _ :: _, .bool _ :: _, _, _, _, _, h => by simp [eqInts] at h
  | .int _ _ :: _, .str _ :: _, _, _, _, _, h => by simp [eqInts] at h
  | .int _ _ :: _, .ptr _ _ :: _, _, _, _, _, h => by simp [eqInts] at h
  | .int _ _ :: _, .nilP :: _, _, _, _, _, h => by simp [eqInts] at h
  | .int _ _ :: _, .nilM :: _, _, _, _, _, h => by simp [eqInts] at h
  | .int _ _ :: _, .slc _ _ _ _ :: _, _, _, _, _, h => by simp [eqInts] at h
  | .int _ _ :: _, .nilS :: _, _, _, _, _, h => by simp [eqInts] at h
  | .int _ _ :: _, .fn _ _ :: _, _, _, _, _, h => by simp [eqInts] at h
  | .int _ _ :: _, .nilF :: _, _, _, _, _, h => by simp [eqInts] at h
  | .int _ _ :: _, .nilI :: _, _, _, _, _, h => by simp [eqInts] at h
  | .int _ _ :: _, .ifc :: _, _, _, _, _, h => by simp [eqInts] at h
  | .bool _ :: _, _ :: _, _, _, _, _, h => by simp [eqInts] at h
  | .str _ :: _, _ :: _, _, _, _, _, h => by simp [eqInts] at h
  | .ptr _ _ :: _, _ :: _, _, _, _, _, h => by simp [eqInts] at h
  | .nilP :: _, _ :: _, _, _, _, _, h => by simp [eqInts] at h
  | .nilM :: _, _ :: _, _, _, _, _, h => by simp [eqInts] at h
  | .slc _ _ _ _ :: _, _ :: _, _, _, _, _, h => by simp [eqInts] at h
  | .nilS :: _, _ :: _, _, _, _, _, h => by simp [eqInts] at h
  | .fn _ _ :: _, _ :: _, _, _, _, _, h => by simp [eqInts] at h
  | .nilF :: _, _ :: _, _, _, _, _, h => by simp [eqInts] at h
  | .nilI :: _, _ :: _, _, _, _, _, h => by simp [eqInts] at h
  | .ifc :: _, _ :: _, _, _, _, _, h => by simp [eqInts] at h

theorem s_aeq {neg : Bool} {n : Nat} {x y : AO} {o : Oper} {v : Option AV} {h' : Heap} (hok : okOp P (.aeq neg n x y) o.op = true) (hE : ERel β E a.tmps) (R : Rep β h w)
    (hs : step1 E h (.aeq neg n x y) = some (v, h')) : Out1 β h w ((execOp a.eval o).run P w) v h' := by
  cases hop : o.op <;> rw [hop] at hok <;> simp only [okOp, Bool.and_eq_true, Bool.false_eq_true, decide_eq_true_eq] at hok
  rename_i op' t x' y' t'
  obtain ⟨⟨⟨⟨k1, k2⟩, k3⟩, k4⟩, k5⟩ := hok
  obtain ⟨e, hu, hg⟩ := arIs_some k5
  simp only [Bool.and_eq_true] at hg
  obtain ⟨hint, hsz⟩ := hg
  obtain ⟨k0, he⟩ := intIs_some hint
  have hag : aggIs P e false = true := by simp [aggIs, he]
  obtain ⟨i, hi, hi1⟩ : ∃ i, P.info? e = some i ∧ i.size = 1 := by
    unfold szIs at hsz
    split at hsz
    · exact ⟨_, by assumption, by simpa using hsz⟩
    · simp at hsz
  simp only [step1] at hs
  split at hs
  · rename_i p q hp hq
    split at hs
    · rename_i hlen
      simp only [Option.map_eq_some_iff, Prod.mk.injEq] at hs
      obtain ⟨r, hr, rfl, rfl⟩ := hs
      have r1 := ev_rel k2 hE hp
      have r2 := ev_rel k3 hE hq
      generalize hpv : a.eval x' = pv at r1
      generalize hqv : a.eval y' = qv at r2
      cases r1 with
      | agg r1 =>
        cases r2 with
        | agg r2 =>
          rename_i us vs
          have hg := run_eqGuard_agg (w := w) op' t x' y' us.toArray vs.toArray (by simpa using k4)
          have hc : P.cellsOf e = 1 := by simp [Program.cellsOf, hi, hi1]
          have hrun := eqItems_ints (P := P) (β := β) (w := w) 9998 he hag us.toArray vs.toArray p q 0 r (fun i v hi => by
            obtain ⟨c, h1, h2⟩ := r1.get hi
            exact ⟨c, by simpa using h1, h2⟩) (fun i v hi => by
            obtain ⟨c, h1, h2⟩ := r2.get hi
            exact ⟨c, by simpa using h1, h2⟩) hr
          have hq := run_equalIn_array (w := w) 9999 us.toArray vs.toArray hu hi
          rw [hc, List.range_eq_range', ← hlen, hrun] at hq
          have hq' := eql_run hq neg rfl rfl
          rw [← k1] at hq'
          refine out_pure R ?_ (.sc (.bool _))
          simp only [execOp, hop, hpv, hqv, Sem.run_bind, hg, hq', Result.andThen_ok]
          simp
    · simp at hs
  · simp at hs

theorem vsIs_some {t : TypeId} (h : vsIs P t = true) : P.stoodInHeld t = false ∧ ∃ f0 f1 k0, P.underlying t = some (.struct (P.fieldsOf t)) ∧ (P.fieldsOf t).toList = [f0, f1] ∧ f0.name ≠ "_" ∧ f1.name ≠ "_" ∧ f0.offset = 0 ∧ f1.offset = 1 ∧ P.underlying f0.type = some (.int k0) ∧ P.underlying f1.type = some .bool := by
  unfold vsIs at h
  simp only [Bool.and_eq_true, Bool.not_eq_true'] at h
  obtain ⟨h1, h2⟩ := h
  refine ⟨h1, ?_⟩
  split at h2
  · rename_i fs hu
    split at h2
    · rename_i f0 f1 hf
      simp only [Bool.and_eq_true, decide_eq_true_eq] at h2
      obtain ⟨⟨⟨⟨⟨a, b⟩, c⟩, d⟩, e⟩, g⟩ := h2
      have hfo : P.fieldsOf t = fs := by simp [Program.fieldsOf, hu]
      split at e
      · rename_i k0 he
        split at g
        · rename_i hg
          exact ⟨f0, f1, k0, by rw [hfo]; exact hu, by rw [hfo]; exact hf, a, b, c, d, he, hg⟩
        · cases g
      · cases e
    · cases h2
  · cases h2
theorem s_veq {neg : Bool} {x y : AO} {o : Oper} {v : Option AV} {h' : Heap} (hok : okOp P (.veq neg x y) o.op = true) (hE : ERel β E a.tmps) (R : Rep β h w)
    (hs : step1 E h (.veq neg x y) = some (v, h')) : Out1 β h w ((execOp a.eval o).run P w) v h' := by
  cases hop : o.op <;> rw [hop] at hok <;> simp only [okOp, Bool.and_eq_true, Bool.false_eq_true, decide_eq_true_eq] at hok
  rename_i op' t x' y' t'
  obtain ⟨⟨⟨⟨k1, k2⟩, k3⟩, k4⟩, k5⟩ := hok
  obtain ⟨hst, f0, f1, k0, hu, hfs, n0, n1, o0, o1, he0, he1⟩ := vsIs_some k5
  simp only [step1] at hs
  split at hs
  · rename_i k a0 p j b q hp hq
    split at hs
    · rename_i hkj
      subst hkj
      simp only [Option.some.injEq, Prod.mk.injEq] at hs
      obtain ⟨rfl, rfl⟩ := hs
      have r1 := ev_rel k2 hE hp
      have r2 := ev_rel k3 hE hq
      generalize hpv : a.eval x' = pv at r1
      generalize hqv : a.eval y' = qv at r2
      cases r1 with
      | agg r1 =>
        cases r2 with
        | agg r2 =>
          rename_i us vs
          have hg := run_eqGuard_agg (w := w) op' t x' y' us.toArray vs.toArray (by simpa using k4)
          cases r1 with | cons u1 r1 => cases r1 with | cons u2 r1 =>
          cases r1
          cases r2 with | cons v1 r2 => cases r2 with | cons v2 r2 =>
          cases r2
          cases u1; cases u2; cases v1; cases v2
          have g0 : aggIs P f0.type false = true := by simp [aggIs, he0]
          have g1 : aggIs P f1.type false = true := by simp [aggIs, he1]
          have hq := run_equalIn_struct (P := P) w 9999 t #[.int k a0, .bool p] #[.int k b, .bool q] hu hst
          rw [hfs] at hq
          have hq2 : (Op.equalIn (9999 + 1) t (.agg #[.int k a0, .bool p]) (.agg #[.int k b, .bool q])).run P w = .ok (a0 == b && p == q) w := by
            rw [hq]
            have p1 : (part f0.type #[Value.int k a0, .bool p] f0.offset).run P w = .ok (.int k a0) w := by simp [part, run_agg g0, o0]
            have p2 : (part f0.type #[Value.int k b, .bool q] f0.offset).run P w = .ok (.int k b) w := by simp [part, run_agg g0, o0]
            have p3 : (part f1.type #[Value.int k a0, .bool p] f1.offset).run P w = .ok (.bool p) w := by simp [part, run_agg g1, o1]
            have p4 : (part f1.type #[Value.int k b, .bool q] f1.offset).run P w = .ok (.bool q) w := by simp [part, run_agg g1, o1]
            have q1 : (Op.equalIn 9999 f0.type (.int k a0) (.int k b)).run P w = .ok (a0 == b) w := run_equalIn_int w 9998 f0.type k k0 a0 b he0
            have q2 : (Op.equalIn 9999 f1.type (.bool p) (.bool q)).run P w = .ok (p == q) w := run_equalIn_bool' w 9998 f1.type p q he1
            simp only [Op.eqFields, n0, n1, ne_eq, not_false_eq_true, if_true, Sem.run_bind, p1, p2, q1, Result.andThen_ok]
            cases hab : (a0 == b)
            · simp [Sem.run_pure]
            · simp only [Bool.not_true, Bool.false_eq_true, if_false, Sem.run_bind, p3, p4, q2, Result.andThen_ok, Bool.true_and]
              cases hpq : (p == q) <;> simp [Sem.run_pure]
          have hq' := eql_run hq2 neg rfl rfl
          rw [← k1] at hq'
          refine out_pure R ?_ (.sc (.bool _))
          simp only [execOp, hop, hpv, hqv, Sem.run_bind, hg, hq', Result.andThen_ok]
          simp
    · simp at hs
  · simp at hs

theorem ssIs_some {t : TypeId} (h : ssIs P t = true) : P.stoodInHeld t = false ∧ ∃ f0 f1 k0 k1, P.underlying t = some (.struct (P.fieldsOf t)) ∧ (P.fieldsOf t).toList = [f0, f1] ∧ f0.name ≠ "_" ∧ f1.name ≠ "_" ∧ f0.offset = 0 ∧ f1.offset = 1 ∧ P.underlying f0.type = some (.int k0) ∧ P.underlying f1.type = some (.int k1) := by
  unfold ssIs at h
  simp only [Bool.and_eq_true, Bool.not_eq_true'] at h
  obtain ⟨h1, h2⟩ := h
  refine ⟨h1, ?_⟩
  split at h2
  · rename_i fs hu
    split at h2
    · rename_i f0 f1 hf
      simp only [Bool.and_eq_true, decide_eq_true_eq] at h2
      obtain ⟨⟨⟨⟨⟨a, b⟩, c⟩, d⟩, e⟩, g⟩ := h2
      have hfo : P.fieldsOf t = fs := by simp [Program.fieldsOf, hu]
      split at e
      · rename_i k0 he
        split at g
        · rename_i k1 hg
          exact ⟨f0, f1, k0, k1, by rw [hfo]; exact hu, by rw [hfo]; exact hf, a, b, c, d, he, hg⟩
        · cases g
      · cases e
    · cases h2
  · cases h2
theorem s_seq2 {neg : Bool} {x y : AO} {o : Oper} {v : Option AV} {h' : Heap} (hok : okOp P (.seq2 neg x y) o.op = true) (hE : ERel β E a.tmps) (R : Rep β h w)
    (hs : step1 E h (.seq2 neg x y) = some (v, h')) : Out1 β h w ((execOp a.eval o).run P w) v h' := by
  cases hop : o.op <;> rw [hop] at hok <;> simp only [okOp, Bool.and_eq_true, Bool.false_eq_true, decide_eq_true_eq] at hok
  rename_i op' t x' y' t'
  obtain ⟨⟨⟨⟨k1, k2⟩, k3⟩, k4⟩, k5⟩ := hok
  obtain ⟨hst, f0, f1, k0, j0, hu, hfs, n0, n1, o0, o1, he0, he1⟩ := ssIs_some k5
  simp only [step1] at hs
  split at hs
  · rename_i k a0 k' p j b j' q hp hq
    split at hs
    · rename_i hkj
      obtain ⟨rfl, rfl⟩ := hkj
      simp only [Option.some.injEq, Prod.mk.injEq] at hs
      obtain ⟨rfl, rfl⟩ := hs
      have r1 := ev_rel k2 hE hp
      have r2 := ev_rel k3 hE hq
      generalize hpv : a.eval x' = pv at r1
      generalize hqv : a.eval y' = qv at r2
      cases r1 with
      | agg r1 =>
        cases r2 with
        | agg r2 =>
          rename_i us vs
          have hg := run_eqGuard_agg (w := w) op' t x' y' us.toArray vs.toArray (by simpa using k4)
          cases r1 with | cons u1 r1 => cases r1 with | cons u2 r1 =>
          cases r1
          cases r2 with | cons v1 r2 => cases r2 with | cons v2 r2 =>
          cases r2
          cases u1; cases u2; cases v1; cases v2
          have g0 : aggIs P f0.type false = true := by simp [aggIs, he0]
          have g1 : aggIs P f1.type false = true := by simp [aggIs, he1]
          have hq := run_equalIn_struct (P := P) w 9999 t #[.int k a0, .int k' p] #[.int k b, .int k' q] hu hst
          rw [hfs] at hq
          have hq2 : (Op.equalIn (9999 + 1) t (.agg #[.int k a0, .int k' p]) (.agg #[.int k b, .int k' q])).run P w = .ok (a0 == b && p == q) w := by
            rw [hq]
            have p1 : (part f0.type #[Value.int k a0, .int k' p] f0.offset).run P w = .ok (.int k a0) w := by simp [part, run_agg g0, o0]
            have p2 : (part f0.type #[Value.int k b, .int k' q] f0.offset).run P w = .ok (.int k b) w := by simp [part, run_agg g0, o0]
            have p3 : (part f1.type #[Value.int k a0, .int k' p] f1.offset).run P w = .ok (.int k' p) w := by simp [part, run_agg g1, o1]
            have p4 : (part f1.type #[Value.int k b, .int k' q] f1.offset).run P w = .ok (.int k' q) w := by simp [part, run_agg g1, o1]
            have q1 : (Op.equalIn 9999 f0.type (.int k a0) (.int k b)).run P w = .ok (a0 == b) w := run_equalIn_int w 9998 f0.type k k0 a0 b he0
            have q2 : (Op.equalIn 9999 f1.type (.int k' p) (.int k' q)).run P w = .ok (p == q) w := run_equalIn_int w 9998 f1.type k' j0 p q he1
            simp only [Op.eqFields, n0, n1, ne_eq, not_false_eq_true, if_true, Sem.run_bind, p1, p2, q1, Result.andThen_ok]
            cases hab : (a0 == b)
            · simp [Sem.run_pure]
            · simp only [Bool.not_true, Bool.false_eq_true, if_false, Sem.run_bind, p3, p4, q2, Result.andThen_ok, Bool.true_and]
              cases hpq : (p == q) <;> simp [Sem.run_pure]
          have hq' := eql_run hq2 neg rfl rfl
          rw [← k1] at hq'
          refine out_pure R ?_ (.sc (.bool _))
          simp only [execOp, hop, hpv, hqv, Sem.run_bind, hg, hq', Result.andThen_ok]
          simp
    · simp at hs
  · simp at hs

theorem extIs_some {g : FuncId} {nm : String} (h : extIs P g nm = true) : ∃ fn, P.funcs[g]? = some fn ∧ fn.body.isNone = true ∧ fn.name = nm ∧ Extern.findNext fn = none := by
  unfold extIs at h
  split at h
  · rename_i fn hf
    simp only [Bool.and_eq_true, beq_iff_eq, Option.isNone_iff_eq_none] at h
    exact ⟨fn, hf, by simpa using h.1.1, h.1.2, h.2⟩
  · cases h
theorem find_add {fn : Func} (h : fn.name = "math/bits.Add64") : Extern.find fn = some add64Entry := by
  simp only [Extern.find, h]
  kernel_rfl
/-- The model's entry for Sub64. -/
def subEntry : Array Value → Sem Value := fun args => do
  let (x, y, b) ← Extern.MathBitsCarry.three "Sub64" args
  pure (Extern.MathBitsCarry.pair ((x + Extern.MathBitsCarry.m64 - y - b) % Extern.MathBitsCarry.m64) (if x < y + b then 1 else 0))
theorem find_sub {fn : Func} (h : fn.name = "math/bits.Sub64") : Extern.find fn = some subEntry := by
  simp only [Extern.find, h]
  kernel_rfl
theorem run_sub (x y b : Int) (hx : 0 ≤ x) (hy : 0 ≤ y ∧ y < 18446744073709551616) (h0 : 0 ≤ b) (h1 : b ≤ 1) (w : World) :
    (subEntry #[.int .u64 x, .int .u64 y, .int .u64 b]).run P w = .ok (.tuple #[.int .u64 ((x + 18446744073709551616 - y - b) % 18446744073709551616), .int .u64 (if x < y + b then 1 else 0)]) w := by
  have key : ∀ k : Nat, k ≤ 1 → (subEntry #[.int .u64 x, .int .u64 y, .int .u64 (k : Int)]).run P w =
      .ok (Extern.MathBitsCarry.pair ((x.toNat + Extern.MathBitsCarry.m64 - y.toNat - k) % Extern.MathBitsCarry.m64) (if x.toNat < y.toNat + k then 1 else 0)) w := by
    intro k hk
    have : k = 0 ∨ k = 1 := by omega
    rcases this with rfl | rfl <;> rfl
  obtain ⟨k, rfl⟩ := Int.eq_ofNat_of_zero_le h0
  rw [key k (by omega)]
  have hm : Extern.MathBitsCarry.m64 = 18446744073709551616 := rfl
  have e1 : ((x.toNat + Extern.MathBitsCarry.m64 - y.toNat - k) % Extern.MathBitsCarry.m64 : Nat) = ((x + 18446744073709551616 - y - k) % 18446744073709551616).toNat := by rw [hm]; omega
  have e2 : (Int.ofNat (if x.toNat < y.toNat + k then 1 else 0)) = (if x < y + (k : Int) then 1 else 0) := by
    by_cases h : x < y + (k : Int)
    · rw [if_pos h, if_pos (by omega)]; rfl
    · rw [if_neg h, if_neg (by omega)]; rfl
  unfold Extern.MathBitsCarry.pair
  rw [e1, e2, show Int.ofNat ((x + 18446744073709551616 - y - (k : Int)) % 18446744073709551616).toNat = (x + 18446744073709551616 - y - (k : Int)) % 18446744073709551616 by show (((x + 18446744073709551616 - y - (k : Int)) % 18446744073709551616).toNat : Int) = _; omega]
theorem s_car {sb : Bool} {x y c : AO} {o : Oper} {v : Option AV} {h' : Heap} (hok : okOp P (.car sb x y c) o.op = true) (hE : ERel β E a.tmps) (R : Rep β h w)
    (hs : step1 E h (.car sb x y c) = some (v, h')) : Out1 β h w ((execOp a.eval o).run P w) v h' := by
  cases hop : o.op <;> rw [hop] at hok <;> simp only [okOp, Bool.false_eq_true] at hok
  rename_i cl
  obtain ⟨callee, args, argTypes⟩ := cl
  split at hok
  · rename_i g x' y' z' hc ha
    simp only at hc ha
    have ha' : args = #[x', y', z'] := by rw [← Array.toArray_toList (xs := args), ha]
    subst hc ha'
    simp only [Bool.and_eq_true] at hok
    obtain ⟨⟨⟨k1, k2⟩, k3⟩, k4⟩ := hok
    obtain ⟨fn, hf, hb, hn, hx⟩ := extIs_some k4
    simp only [step1] at hs
    split at hs
    · rename_i p q d hp hq hd
      split at hs
      · rename_i hcond
        obtain ⟨c1, c2, c3, c4, c5⟩ := hcond
        simp only [Option.some.injEq, Prod.mk.injEq] at hs
        obtain ⟨rfl, rfl⟩ := hs
        have r1 := evS_rel k1 hE hp
        have r2 := evS_rel k2 hE hq
        have r3 := evS_rel k3 hE hd
        generalize hpv : a.eval x' = pv at r1
        generalize hqv : a.eval y' = qv at r2
        generalize hdv : a.eval z' = dv at r3
        cases r1; cases r2; cases r3
        cases sb with
        | true =>
          simp only [if_true] at hn
          have hrun := run_callFunc_extern (P := P) hf (by rw [hn]; rfl) hb hx (find_sub hn) #[.int .u64 p, .int .u64 q, .int .u64 d] w
          rw [run_sub p q d c1 ⟨c2, c3⟩ c4 c5] at hrun
          refine out_pure (c := .tuple #[.int .u64 ((p + 18446744073709551616 - q - d) % 18446744073709551616), .int .u64 (if p < q + d then 1 else 0)]) R ?_ (.tup (vs := [_, _]) (.cons (.sc (.int _ _)) (.cons (.sc (.int _ _)) .nil)))
          have ef : a.eval (.func g) = .func (.func g) #[] #[] := rfl
          simp [execOp, hop, resolve, ef, hpv, hqv, hdv, Deferred.ofValue, invoke, hrun, Result.andThen]
        | false =>
          simp only [Bool.false_eq_true, if_false] at hn
          have hrun := run_callFunc_extern (P := P) hf (by rw [hn]; rfl) hb hx (find_add hn) #[.int .u64 p, .int .u64 q, .int .u64 d] w
          rw [run_add64 p q d c1 c2 c4 c5] at hrun
          refine out_pure (c := .tuple #[.int .u64 ((p + q + d) % 18446744073709551616), .int .u64 ((p + q + d) / 18446744073709551616)]) R ?_ (.tup (vs := [_, _]) (.cons (.sc (.int _ _)) (.cons (.sc (.int _ _)) .nil)))
          have ef : a.eval (.func g) = .func (.func g) #[] #[] := rfl
          simp [execOp, hop, resolve, ef, hpv, hqv, hdv, Deferred.ofValue, invoke, hrun, Result.andThen]
      · simp at hs
    · simp at hs
  · simp at hok

theorem s_peq {neg : Bool} {x y : AO} {o : Oper} {v : Option AV} {h' : Heap} (hok : okOp P (.peq neg x y) o.op = true) (hE : ERel β E a.tmps) (R : Rep β h w)
    (hs : step1 E h (.peq neg x y) = some (v, h')) : Out1 β h w ((execOp a.eval o).run P w) v h' := by
  cases hop : o.op <;> rw [hop] at hok <;> simp only [okOp, Bool.and_eq_true, Bool.false_eq_true, decide_eq_true_eq] at hok
  rename_i op' t x' y' t'
  obtain ⟨⟨⟨⟨k1, k2⟩, k3⟩, k4⟩, k5⟩ := hok
  simp only [step1] at hs
  split at hs
  · rename_i i a' j b hp hq
    split at hs
    · rename_i hij
      obtain ⟨rfl, rfl⟩ := hij
      simp at hs
      obtain ⟨rfl, rfl⟩ := hs
      have r1 := evS_rel k2 hE hp
      have r2 := evS_rel k3 hE hq
      have hg := eqGuard_run (P := P) op' t x' y' (u := a.eval x') (v := a.eval y') r1.one (.inl (r1.ne_nilI (by simp))) w
      generalize hpv : a.eval x' = pv at r1 hg
      generalize hqv : a.eval y' = qv at r2 hg
      cases r1 with
      | ptr h1 hn1 =>
        cases r2 with
        | ptr h2 hn2 =>
          rename_i L M
          obtain rfl : L = M := by rw [h1] at h2; simpa using h2
          unfold ptrIs at k5
          split at k5
          · rename_i e hu
            obtain ⟨i, hi⟩ := Option.isSome_iff_exists.1 k5
            have heq : ∀ d, (Op.equalIn (d + 1) t (.pointer (some ⟨L.b, L.base + a', none⟩)) (.pointer (some ⟨L.b, L.base + a', none⟩))).run P w = .ok true w := fun d => by
              simp [Op.equalIn, run_und hu, sizeOf, typeInfo, hi, run_sameAddr_same]
            have he := eql_run (heq 9999) neg rfl rfl
            rw [← k1] at he
            refine out_pure R ?_ (.sc (.bool _))
            simp only [execOp, hop, hpv, hqv, Sem.run_bind, hg, he, Result.andThen_ok]
            cases neg <;> simp
          · simp at k5
    · simp at hs
  · simp at hs

theorem fdIs_some {t : TypeId} {f : Nat} {g : Field → Bool} (h : fdIs P t f g = true) : ∃ fs fd, P.underlying t = some (.struct fs) ∧ fs[f]? = some fd ∧ g fd = true := by
  unfold fdIs at h
  split at h
  · split at h
    · exact ⟨_, _, by assumption, by assumption, h⟩
    · simp at h
  · simp at h

theorem s_fldA {off : Nat} {x : AO} {o : Oper} {v : Option AV} {h' : Heap} (hok : okOp P (.fldA off x) o.op = true) (hE : ERel β E a.tmps) (R : Rep β h w)
    (hs : step1 E h (.fldA off x) = some (v, h')) : Out1 β h w ((execOp a.eval o).run P w) v h' := by
  cases hop : o.op <;> rw [hop] at hok <;> simp [okOp] at hok
  rename_i t x' f
  obtain ⟨k1, k2⟩ := hok
  obtain ⟨fs, fd, hu, hf, hg⟩ := fdIs_some k2
  simp at hg
  obtain ⟨rfl, hg⟩ := hg
  simp only [step1] at hs
  split at hs
  · rename_i id o' hp
    simp at hs
    obtain ⟨rfl, rfl⟩ := hs
    have r1 := evS_rel k1 hE hp
    generalize hpv : a.eval x' = pv at r1
    cases r1 with
    | ptr hL hn =>
      split at hg
      · rename_i i hi
        simp at hg
        refine out_pure R ?_ (.sc (.ptr hL hn))
        have hsz : (sizeOf fd.type).run P w = .ok i.size w := by simp [sizeOf, typeInfo, hi]
        simp [execOp, hop, hpv, Instr.fieldAt, Instr.sureAddr, run_und hu, hf, fieldPlace, hsz, hg, Addr.add_off, Nat.add_assoc]
      · simp at hg
  · simp at hs

theorem s_fld {off size : Nat} {agg : Bool} {x : AO} {o : Oper} {v : Option AV} {h' : Heap} (hok : okOp P (.fld off size agg x) o.op = true) (hE : ERel β E a.tmps) (R : Rep β h w)
    (hs : step1 E h (.fld off size agg x) = some (v, h')) : Out1 β h w ((execOp a.eval o).run P w) v h' := by
  cases hop : o.op <;> rw [hop] at hok <;> simp [okOp] at hok
  rename_i t x' f
  obtain ⟨k1, k2⟩ := hok
  obtain ⟨fs, fd, hu, hf, hg⟩ := fdIs_some k2
  simp at hg
  obtain ⟨⟨rfl, hsz⟩, hag⟩ := hg
  simp only [step1] at hs
  split at hs
  · rename_i cs hp
    simp only [Option.bind_eq_some_iff, Option.map_eq_some_iff, Prod.mk.injEq] at hs
    obtain ⟨us, hus, u, hu', rfl, rfl⟩ := hs
    have r1 := ev_rel k1 hE hp
    generalize hpv : a.eval x' = pv at r1
    cases r1 with
    | agg hr =>
      obtain ⟨c, e1, e2⟩ := part_run (P := P) hr hsz hag hus hu' w
      refine out_pure R ?_ e2
      simp [execOp, hop, hpv, Instr.field, asAgg, run_und hu, hf, e1]
  · simp at hs

theorem loadCells_run {b o : Nat} {ws : List Value} (hw : ∀ (j : Nat) (v : Value), ws[j]? = some v → w.cell? ⟨b, o + j, none⟩ = some v) : (loadCells ⟨b, o, none⟩ ws.length).run P w = .ok ws.toArray w :=
  run_loadCells_list w ⟨b, o, none⟩ ws fun j v hj => by rw [Addr.add_off]; exact hw j v hj

theorem loadVar_run {t : TypeId} {n : Nat} {agg : Bool} (hsz : szIs P t n = true) (hag : aggIs P t agg = true) (R : Rep β h w) {id off : Nat} {vs : List SV} {L : Loc} (hL : β id = some L) (hn : L.esz.n < 1000000)
    (hr : readN h id off n = some vs) {u : AV} (hu : cellsAV agg vs = some u) : ∃ c, (loadVar t ⟨L.b, L.base + off, none⟩).run P w = .ok c w ∧ ARel β u c := by
  obtain ⟨ws, h1, h2, h3⟩ := read_cells R hL hn hr
  unfold cellsAV at hu
  split at hu
  · rename_i ha; subst ha
    simp at hu; subst hu
    refine ⟨.agg ws.toArray, ?_, .agg h1⟩
    have := loadCells_run (P := P) h3
    rw [h2] at this
    simp [loadVar, run_agg hag, run_sz hsz, this]
  · rename_i ha
    simp at ha; subst ha
    split at hu
    · simp at hu; subst hu
      cases h1 with
      | cons k1 k2 =>
        rename_i c m
        refine ⟨c, ?_, .sc k1⟩
        have := h3 0 c rfl
        simp only [Nat.add_zero] at this
        simp [loadVar, run_agg hag, this]
    · simp at hu

theorem s_ld {n : Nat} {agg : Bool} {x : AO} {o : Oper} {v : Option AV} {h' : Heap} (hok : okOp P (.ld n agg x) o.op = true) (hE : ERel β E a.tmps) (R : Rep β h w)
    (hs : step1 E h (.ld n agg x) = some (v, h')) : Out1 β h w ((execOp a.eval o).run P w) v h' := by
  cases hop : o.op <;> rw [hop] at hok <;> simp [okOp] at hok
  rename_i t x'
  obtain ⟨⟨k1, k2⟩, k3⟩ := hok
  simp only [step1] at hs
  split at hs
  · rename_i id off hp
    simp only [Option.bind_eq_some_iff, Option.map_eq_some_iff, Prod.mk.injEq] at hs
    obtain ⟨us, hus, u, hu', rfl, rfl⟩ := hs
    have r1 := evS_rel k1 hE hp
    generalize hpv : a.eval x' = pv at r1
    cases r1 with
    | ptr hL hn =>
      obtain ⟨c, e1, e2⟩ := loadVar_run (P := P) k2 k3 R hL hn hus hu'
      refine out_pure R ?_ e2
      simp [execOp, hop, hpv, Instr.loadAt, Instr.sureAddr, e1]
  · simp at hs

theorem F2.oneCell {vs : List SV} {ws : List Value} (h : F2 (SRel β) vs ws) : ∀ u ∈ ws, u.oneCell' = true := by
  induction h with
  | nil => simp
  | cons a _ ih => intro u hu; simp at hu; rcases hu with rfl | hu; exact a.one; exact ih u hu

theorem splice_get (cs vs : List SV) (off : Nat) (hl : off + vs.length ≤ cs.length) (i : Nat) :
    (splice cs off vs)[i]? = if i < off then cs[i]? else if i < off + vs.length then vs[i - off]? else cs[i]? := by
  unfold splice
  have h1 : (cs.take off).length = off := by simp; omega
  by_cases hi : i < off
  · rw [if_pos hi, List.append_assoc, List.getElem?_append_left (by omega), List.getElem?_take, if_pos hi]
  · rw [if_neg hi]
    by_cases hi2 : i < off + vs.length
    · rw [if_pos hi2, List.getElem?_append_left (by simp; omega), List.getElem?_append_right (by omega), h1]
    · rw [if_neg hi2, List.getElem?_append_right (by simp; omega), List.getElem?_drop]
      congr 1
      simp; omega

theorem splice_len (cs vs : List SV) (off : Nat) (hl : off + vs.length ≤ cs.length) : (splice cs off vs).length = cs.length := by
  simp [splice]; omega

theorem spliceV_get (cs vs : List Value) (off : Nat) (hl : off + vs.length ≤ cs.length) (i : Nat) :
    (cs.take off ++ vs ++ cs.drop (off + vs.length))[i]? = if i < off then cs[i]? else if i < off + vs.length then vs[i - off]? else cs[i]? := by
  have h1 : (cs.take off).length = off := by simp; omega
  by_cases hi : i < off
  · rw [if_pos hi, List.append_assoc, List.getElem?_append_left (by omega), List.getElem?_take, if_pos hi]
  · rw [if_neg hi]
    by_cases hi2 : i < off + vs.length
    · rw [if_pos hi2, List.getElem?_append_left (by simp; omega), List.getElem?_append_right (by omega), h1]
    · rw [if_neg hi2, List.getElem?_append_right (by simp; omega), List.getElem?_drop]
      congr 1
      simp; omega

/-- A store into a block of the call's own. -/
theorem store_done (R : Rep β h w) {id off : Nat} {L : Loc} (hL : β id = some L) (hn : L.esz.n < 1000000) {vs : List SV} {ws : List Value} (hr : F2 (SRel β) vs ws) {h' : Heap} (hw : writeN h id off vs = some h') :
    ∃ w', (storeCells ⟨L.b, L.base + off, none⟩ ws).run P w = .ok () w' ∧ Stp β h w β h' w' ∧ Rep β h' w' := by
  unfold writeN at hw
  split at hw
  · rename_i cs esz hg
    split at hw
    · rename_i hl
      simp at hw; subst hw
      obtain ⟨h1, ccs, e, fz, h2, h3, h4, h5, h6, -, -⟩ := (R.blk id L cs true esz hg hL).cell hn
      have := h6 rfl
      subst this
      have hlen := hr.length
      have hfit : L.base + off + 0 + ws.length ≤ ccs.size := by omega
      have hrun := run_storeCells_at P L.b (L.base + off) e ws 0 ccs w h2 hfit hr.oneCell
      refine ⟨_, hrun, ?_⟩
      have hfit' : L.base + off + ws.length ≤ ccs.toList.length := by simpa using hfit
      refine write_done R hg hL hn _ (splice cs off vs) (splice_len _ _ _ hl) ?_ ?_ ?_
      · simp; omega
      · rw [splice_len _ _ _ hl]; exact h4
      · intro i v hv
        rw [splice_get _ _ _ hl] at hv
        simp only [List.getElem?_toArray, Nat.add_zero]
        rw [spliceV_get _ _ _ hfit']
        by_cases c1 : i < off
        · rw [if_pos c1] at hv
          rw [if_pos (by omega), Array.getElem?_toList]
          exact h5 i v hv
        · rw [if_neg c1] at hv
          rw [if_neg (by omega)]
          by_cases c2 : i < off + vs.length
          · rw [if_pos c2] at hv
            rw [if_pos (by omega)]
            obtain ⟨c, q1, q2⟩ := hr.get hv
            exact ⟨c, by rw [← q1]; congr 1; omega, q2⟩
          · rw [if_neg c2] at hv
            rw [if_neg (by omega), Array.getElem?_toList]
            exact h5 i v hv
    · simp at hw
  · simp at hw

theorem s_st {n : Nat} {y x : AO} {o : Oper} {v : Option AV} {h' : Heap} (hok : okOp P (.st n y x) o.op = true) (hE : ERel β E a.tmps) (R : Rep β h w)
    (hs : step1 E h (.st n y x) = some (v, h')) : Out1 β h w ((execOp a.eval o).run P w) v h' := by
  cases hop : o.op <;> rw [hop] at hok <;> simp [okOp] at hok
  rename_i t y' x'
  obtain ⟨⟨k1, k2⟩, k3⟩ := hok
  simp only [step1] at hs
  split at hs
  · rename_i id off hp
    simp only [Option.bind_eq_some_iff] at hs
    obtain ⟨u, hu, vs, hvs, hs⟩ := hs
    split at hs
    · rename_i hn
      simp only [Option.map_eq_some_iff, Prod.mk.injEq] at hs
      obtain ⟨h1, hw, rfl, rfl⟩ := hs
      have r1 := evS_rel k1 hE hp
      have r2 := ev_rel k2 hE hu
      obtain ⟨ws, e1, e2⟩ := r2.cells hvs
      generalize hpv : a.eval y' = pv at r1
      cases r1 with
      | ptr hL hn' =>
        obtain ⟨w', q1, q2, q3⟩ := store_done (P := P) R hL hn' e2 hw
        refine ⟨β, w', q2, q3, ?_⟩
        have hsz : (sizeOf t).run P w = .ok ws.length w := by rw [← e2.length, hn]; exact run_sz k3 w
        simp [execOp, hop, hpv, Instr.storeAt, Instr.sureAddr, storeVar, hsz, e1, q1]
    · simp at hs
  · simp at hs

end Go.Ab

