import Derived.Test.YtleoalcbgpjieaaDoorAb17
/- Reasoning about what is reckoned: with enough fuel. -/
namespace Go.Ab
/-- Nothing is kept, if nothing else is said. -/
instance (priority := low) noBase : Base := ⟨0, default⟩
set_option linter.unusedVariables false
section
variable {FT : FuncId → Option AFun} {HK : FuncId → Option Hook}

/-- With enough fuel the call ends so. -/
def Cal (FT : FuncId → Option AFun) (HK : FuncId → Option Hook) (f : FuncId) (args : List AV) (h : Heap) (v : AV) (h' : Heap) : Prop :=
  ∃ N, ∀ m, N ≤ m → callA FT HK m f args h = some (v, h')

/-- With enough fuel the code ends so. -/
def Run (FT : FuncId → Option AFun) (HK : FuncId → Option Hook) (c : AC) (E : Env) (h : Heap) (r : Ex × Env × Heap) : Prop :=
  ∃ N, ∀ m, N ≤ m → exec (callA FT HK m) m c E h = some r

/-- With enough fuel the loop, from its head, ends so. -/
def Lp (FT : FuncId → Option AFun) (HK : FuncId → Option Hook) (ks : List Nat) (c : AC) (E : Env) (h : Heap) (r : Ex × Env × Heap) : Prop :=
  ∃ N, ∀ m, N ≤ m → ∀ j, N ≤ j → iter ks (exec (callA FT HK m) m c) j E h = some r

theorem Lp.run {ks : List Nat} {c : AC} {E : Env} {h : Heap} {r : Ex × Env × Heap} (hl : Lp FT HK ks c E h r) : Run FT HK (.loop ks c) E h r := by
  obtain ⟨N, hN⟩ := hl
  exact ⟨N, fun m hm => by simp only [exec]; exact hN m hm m hm⟩

theorem Lp.step {ks : List Nat} {c : AC} {E E1 : Env} {h h1 : Heap} {r : Ex × Env × Heap} (hb : Run FT HK c (E.keep ks) h (.nm, E1, h1)) (hl : Lp FT HK ks c E1 h1 r) : Lp FT HK ks c E h r := by
  obtain ⟨N1, h1⟩ := hb
  obtain ⟨N2, h2⟩ := hl
  refine ⟨N1 + N2 + 1, fun m hm j hj => ?_⟩
  cases j with
  | zero => omega
  | succ j =>
    simp only [iter]
    rw [h1 m (by omega)]
    exact h2 m (by omega) j (by omega)

theorem Lp.stop {ks : List Nat} {c : AC} {E E1 : Env} {h h1 : Heap} {ex : Ex} (hex : ex ≠ .nm) (hb : Run FT HK c (E.keep ks) h (ex, E1, h1)) : Lp FT HK ks c E h (ex, E1, h1) := by
  obtain ⟨N1, h1⟩ := hb
  refine ⟨N1 + 1, fun m hm j hj => ?_⟩
  cases j with
  | zero => omega
  | succ j =>
    simp only [iter]
    rw [h1 m (by omega)]
    cases ex with
    | nm => exact absurd rfl hex
    | ex i => rfl
    | rt => rfl

theorem Run.seq {a b : AC} {E E1 : Env} {h h1 : Heap} {r : Ex × Env × Heap} (ha : Run FT HK a E h (.nm, E1, h1)) (hb : Run FT HK b E1 h1 r) : Run FT HK (.seq a b) E h r := by
  obtain ⟨N1, h1⟩ := ha
  obtain ⟨N2, h2⟩ := hb
  refine ⟨N1 + N2, fun m hm => ?_⟩
  simp only [exec]
  rw [h1 m (by omega)]
  exact h2 m (by omega)

theorem Run.seqStop {a b : AC} {E E1 : Env} {h h1 : Heap} {ex : Ex} (hex : ex ≠ .nm) (ha : Run FT HK a E h (ex, E1, h1)) : Run FT HK (.seq a b) E h (ex, E1, h1) := by
  obtain ⟨N1, h1⟩ := ha
  refine ⟨N1, fun m hm => ?_⟩
  simp only [exec]
  rw [h1 m (by omega)]
  cases ex with
  | nm => exact absurd rfl hex
  | ex i => rfl
  | rt => rfl

theorem Run.call {f : FuncId} {F : AFun} {args : List AV} {h h' : Heap} {v : AV} {ex : Ex} {E' : Env} (hk : HK f = none) (hF : FT f = some F) (hl : args.length = F.np)
    (hr : Run FT HK F.body (params 0 args) h (ex, E', h')) (hex : ex = .nm ∨ ex = .rt) (hres : resultsA F.res E' h' = some v) : Cal FT HK f args h v h' := by
  obtain ⟨N, hN⟩ := hr
  refine ⟨N + 1, fun m hm => ?_⟩
  cases m with
  | zero => omega
  | succ m =>
    simp only [callA, hk, hF, hl, if_true]
    rw [hN m (by omega)]
    rcases hex with rfl | rfl <;> simp [finish, hres]

theorem Cal.hook {f : FuncId} {g : Hook} {args : List AV} {h h' : Heap} {v : AV} (hk : HK f = some g) (hg : g args h = some (v, h')) : Cal FT HK f args h v h' :=
  ⟨1, fun m hm => by
    cases m with
    | zero => omega
    | succ m => simp only [callA, hk]; exact hg⟩

theorem Run.of {c : AC} {E : Env} {h : Heap} {r : Ex × Env × Heap} (hr : ∀ m, exec (callA FT HK m) m c E h = some r) : Run FT HK c E h r := ⟨0, fun m _ => hr m⟩


/-! ### What must hold for the code to end well -/
def oK {α : Type} (o : Option α) (K : α → Prop) : Prop := match o with
  | some a => K a
  | none => False
/-- One of two, by a test; a condition, and the rest. (Behind names, so that simp stops there.) -/
def wIf (c : Prop) (A B : Prop) : Prop := (c → A) ∧ (¬ c → B)
def wAnd (c : Prop) (A : Prop) : Prop := c ∧ A

theorem oK_some {α : Type} (a : α) (K : α → Prop) : oK (some a) K = K a := rfl
theorem oK_none {α : Type} (K : α → Prop) : oK none K = False := rfl
theorem wIf_eq (c : Prop) [Decidable c] (A B : Prop) : wIf c A B = if c then A else B := by
  unfold wIf; split <;> simp [*]
theorem wIf_true (A B : Prop) : wIf True A B = A := by simp [wIf]
theorem wIf_false (A B : Prop) : wIf False A B = B := by simp [wIf]
theorem wIf_pos {c : Prop} (h : c) (A B : Prop) : wIf c A B = A := by simp [wIf, h]
theorem wIf_neg {c : Prop} (h : ¬ c) (A B : Prop) : wIf c A B = B := by simp [wIf, h]
theorem wAnd_true (A : Prop) : wAnd True A = A := by simp [wAnd]
theorem wAnd_false (A : Prop) : wAnd False A = False := by simp [wAnd]
theorem wAnd_pos {c : Prop} (h : c) (A : Prop) : wAnd c A = A := by simp [wAnd, h]
theorem oK_ite {α : Type} (c : Prop) [Decidable c] (x y : Option α) (K : α → Prop) : oK (if c then x else y) K = wIf c (oK x K) (oK y K) := by rw [wIf_eq]; split <;> rfl
theorem oK_ite_none {α : Type} (c : Prop) [Decidable c] (x : Option α) (K : α → Prop) : oK (if c then x else none) K = wAnd c (oK x K) := by
  unfold wAnd; split <;> simp [*, oK]
theorem oK_none_ite {α : Type} (c : Prop) [Decidable c] (x : Option α) (K : α → Prop) : oK (if c then none else x) K = wAnd (¬ c) (oK x K) := by
  unfold wAnd; split <;> simp [*, oK]
theorem oK_map {α β : Type} (o : Option α) (f : α → β) (K : β → Prop) : oK (o.map f) K = oK o fun a => K (f a) := by cases o <;> rfl
theorem oK_bind {α β : Type} (o : Option α) (f : α → Option β) (K : β → Prop) : oK (o.bind f) K = oK o fun a => oK (f a) K := by cases o <;> rfl
theorem oK_iff {α : Type} {o : Option α} {K : α → Prop} : oK o K ↔ ∃ a, o = some a ∧ K a := by cases o <;> simp [oK]
theorem oK_of {α : Type} {o : Option α} {a : α} {K : α → Prop} (h : o = some a) (hk : K a) : oK o K := by subst h; exact hk
theorem oK_congr {α : Type} {o o' : Option α} {K : α → Prop} (h : o = o') : oK o K = oK o' K := by rw [h]
theorem wIf_congr {c c' A B : Prop} (h : c = c') : wIf c A B = wIf c' A B := by rw [h]
theorem wAnd_congr {c c' A : Prop} (h : c = c') : wAnd c A = wAnd c' A := by rw [h]

section wp
variable (FT : FuncId → Option AFun) (HK : FuncId → Option Hook)

def wCall (f : FuncId) (vs : List AV) (h : Heap) (K : AV → Heap → Prop) : Prop := ∃ v h', Cal FT HK f vs h v h' ∧ K v h'
def wLoop (ks : List Nat) (a : AC) (E : Env) (h : Heap) (Q : Ex → Env → Heap → Prop) : Prop := ∃ ex E' h', Lp FT HK ks a E h (ex, E', h') ∧ Q ex E' h'

def wCallV (s : SV) (vs : List AV) (h : Heap) (K : AV → Heap → Prop) : Prop := match s with
  | .fn f caps => wCall FT HK f (vs ++ caps.map fun p => AV.sc (.ptr p.1 p.2)) h K
  | _ => False

def wK (E : Env) (h : Heap) (k : AK) (K : Option AV → Heap → Prop) : Prop :=
  match k with
  | .call f args => oK (evs E args) fun vs => wCall FT HK f vs h fun v h' => K (some v) h'
  | .callv x args => oK (evS E x) fun s => oK (evs E args) fun vs => wCallV FT HK s vs h fun v h' => K (some v) h'
  | k => oK (step1 E h k) fun r => K r.1 r.2

def wOp (o : AOp) (E : Env) (h : Heap) (K : Env → Heap → Prop) : Prop :=
  oK (wants E o.guard) fun b => wIf (b = true) (wK FT HK E h o.k fun v h' => K (bindE o.dst v E) h') (K (bindE o.dst (some (.tup [])) E) h)

def wOps : List AOp → Env → Heap → (Env → Heap → Prop) → Prop
  | [], E, h, K => K E h
  | o :: r, E, h, K => wOp FT HK o E h fun E' h' => wOps r E' h' K

def wOpsD : List (AOp × Nat × Bool) → Env → Heap → (Env → Heap → Prop) → Prop
  | [], E, h, K => K E h
  | o :: r, E, h, K => wOp FT HK o.1 E h fun E' h' => wAnd (o.2.2 = true ∨ h'.take h.length = h) (wOpsD r E' h' K)

def wOpsS (S A fr : List Nat) : List (AOp × Nat × Bool) → Env → Heap → (Env → Heap → Prop) → Prop
  | [], E, h, K => K E h
  | o :: r, E, h, K => (∀ id, ldX E o.2.2 o.1.k = some id → id ∈ S) ∧ wOp FT HK o.1 E h fun E' h' => (o.2.2 = true ∨ h'.take h.length = h) ∧ (o.2.1 ∈ fr ∨ (∀ id ∈ S, h'[id]? = h[id]?) ∧ ∀ id ∈ A, id < h.length → h'[id]? = h[id]?) ∧ (1000 + o.2.1 ∈ fr → ∀ id, h.length ≤ id → id < h'.length → id ∈ A) ∧ wOpsS S A fr r E' h' K

def wSeq (w : Env → Heap → Prop) (Q : Ex → Env → Heap → Prop) : Ex → Env → Heap → Prop
  | .nm, E, h => w E h
  | e, E, h => Q e E h

def wBlk (id : Nat) (Q : Ex → Env → Heap → Prop) : Ex → Env → Heap → Prop
  | .ex i, E, h => wIf (i = id) (Q .nm E h) (Q (.ex i) E h)
  | e, E, h => Q e E h

def wCond (s : SV) (A B : Prop) : Prop := match s with
  | .bool t => wIf (t = true) A B
  | _ => False

def wA : AC → Env → Heap → (Ex → Env → Heap → Prop) → Prop
  | .skip, E, h, Q => Q .nm E h
  | .ret, E, h, Q => Q .rt E h
  | .exit id, E, h, Q => Q (.ex id) E h
  | .reg ops keep, E, h, Q => wOps FT HK ops E h fun E' h' => Q .nm (E'.keep keep) h'
  | .regd ops keep, E, h, Q => wOpsD FT HK ops E h fun E' h' => Q .nm (E'.keep keep) h'
  | .regs ops fr keep, E, h, Q => ∃ S A, wOpsS FT HK S A fr ops E h fun E' h' => Q .nm (E'.keep keep) h'
  | .seq a b, E, h, Q => wA a E h (wSeq (fun E' h' => wA b E' h' Q) Q)
  | .cond c a b, E, h, Q => oK (evS E c) fun s => wCond s (wA a E h Q) (wA b E h Q)
  | .block id a, E, h, Q => wA a E h (wBlk id Q)
  | .loop ks a, E, h, Q => wLoop FT HK ks a E h Q
  | .scope a, E, h, Q => wA a E h Q

variable {FT HK}
theorem wCall_congr {f f' : FuncId} {vs vs' : List AV} {h h' : Heap} {K : AV → Heap → Prop} (h1 : f = f') (h2 : vs = vs') (h3 : h = h') : wCall FT HK f vs h K = wCall FT HK f' vs' h' K := by rw [h1, h2, h3]
theorem wCallV_congr {f f' : SV} {vs vs' : List AV} {h h' : Heap} {K : AV → Heap → Prop} (h1 : f = f') (h2 : vs = vs') (h3 : h = h') : wCallV FT HK f vs h K = wCallV FT HK f' vs' h' K := by rw [h1, h2, h3]
theorem wLoop_congr {ks : List Nat} {a : AC} {E E' : Env} {h h' : Heap} {Q : Ex → Env → Heap → Prop} (h1 : E = E') (h2 : h = h') : wLoop FT HK ks a E h Q = wLoop FT HK ks a E' h' Q := by rw [h1, h2]
theorem wK_congr {E E' : Env} {h h' : Heap} {k : AK} {K : Option AV → Heap → Prop} (h1 : E = E') (h2 : h = h') : wK FT HK E h k K = wK FT HK E' h' k K := by rw [h1, h2]
theorem wOp_congr {E E' : Env} {h h' : Heap} {o : AOp} {K : Env → Heap → Prop} (h1 : E = E') (h2 : h = h') : wOp FT HK o E h K = wOp FT HK o E' h' K := by rw [h1, h2]
theorem wOps_congr {E E' : Env} {h h' : Heap} {o : List AOp} {K : Env → Heap → Prop} (h1 : E = E') (h2 : h = h') : wOps FT HK o E h K = wOps FT HK o E' h' K := by rw [h1, h2]
theorem wOpsD_congr {E E' : Env} {h h' : Heap} {o : List (AOp × Nat × Bool)} {K : Env → Heap → Prop} (h1 : E = E') (h2 : h = h') : wOpsD FT HK o E h K = wOpsD FT HK o E' h' K := by rw [h1, h2]
theorem wA_congr {E E' : Env} {h h' : Heap} {c : AC} {Q : Ex → Env → Heap → Prop} (h1 : E = E') (h2 : h = h') : wA FT HK c E h Q = wA FT HK c E' h' Q := by rw [h1, h2]
theorem wSeq_congr {ex ex' : Ex} {E E' : Env} {h h' : Heap} {w : Env → Heap → Prop} {Q : Ex → Env → Heap → Prop} (h0 : ex = ex') (h1 : E = E') (h2 : h = h') : wSeq w Q ex E h = wSeq w Q ex' E' h' := by rw [h0, h1, h2]
theorem wBlk_congr {id : Nat} {ex ex' : Ex} {E E' : Env} {h h' : Heap} {Q : Ex → Env → Heap → Prop} (h0 : ex = ex') (h1 : E = E') (h2 : h = h') : wBlk id Q ex E h = wBlk id Q ex' E' h' := by rw [h0, h1, h2]
theorem wCond_congr {s s' : SV} {A B : Prop} (h : s = s') : wCond s A B = wCond s' A B := by rw [h]

theorem wCall_of {f : FuncId} {vs : List AV} {h : Heap} {K R : AV → Heap → Prop} (hc : ∃ v h', Cal FT HK f vs h v h' ∧ R v h') (hK : ∀ v h', R v h' → K v h') : wCall FT HK f vs h K :=
  let ⟨v, h', h1, h2⟩ := hc; ⟨v, h', h1, hK v h' h2⟩
theorem wLoop_of {ks : List Nat} {a : AC} {E : Env} {h : Heap} {Q R : Ex → Env → Heap → Prop} (hc : ∃ ex E' h', Lp FT HK ks a E h (ex, E', h') ∧ R ex E' h') (hQ : ∀ ex E' h', R ex E' h' → Q ex E' h') : wLoop FT HK ks a E h Q :=
  let ⟨ex, E', h', h1, h2⟩ := hc; ⟨ex, E', h', h1, hQ ex E' h' h2⟩

theorem wCall_run {f : FuncId} {vs : List AV} {h : Heap} {K : AV → Heap → Prop} (hw : wCall FT HK f vs h K) : ∃ v h', K v h' ∧ ∃ N, ∀ m, N ≤ m → callA FT HK m f vs h = some (v, h') := by
  obtain ⟨v, h', ⟨N, hN⟩, h3⟩ := hw
  exact ⟨v, h', h3, N, hN⟩

theorem wK_run {E : Env} {h : Heap} {k : AK} {K : Option AV → Heap → Prop} (hw : wK FT HK E h k K) : ∃ v h', K v h' ∧ ∃ N, ∀ m, N ≤ m → opRun (callA FT HK m) E h k = some (v, h') := by
  unfold wK at hw
  split at hw
  · obtain ⟨vs, h1, hw⟩ := oK_iff.1 hw
    obtain ⟨v, h', h3, N, hN⟩ := wCall_run hw
    exact ⟨some v, h', h3, N, fun m hm => by simp [opRun, h1, hN m hm]⟩
  · obtain ⟨s, h1, hw⟩ := oK_iff.1 hw
    obtain ⟨vs, h2, hw⟩ := oK_iff.1 hw
    unfold wCallV at hw
    split at hw
    · obtain ⟨v, h', h3, N, hN⟩ := wCall_run hw
      exact ⟨some v, h', h3, N, fun m hm => by simp [opRun, h1, h2, hN m hm]⟩
    · exact hw.elim
  · rename_i h1 h2
    obtain ⟨r, h3, h4⟩ := oK_iff.1 hw
    refine ⟨r.1, r.2, h4, 0, fun m _ => ?_⟩
    unfold opRun
    split
    · exact absurd rfl (h1 _ _)
    · exact absurd rfl (h2 _ _)
    · exact h3

theorem wOp_run {o : AOp} {E : Env} {h : Heap} {K : Env → Heap → Prop} (hw : wOp FT HK o E h K) : ∃ E' h', K E' h' ∧ ∃ N, ∀ m, N ≤ m → runOp (callA FT HK m) o E h = some (E', h') := by
  unfold wOp at hw
  obtain ⟨b, h1, hw⟩ := oK_iff.1 hw
  rw [wIf_eq] at hw
  split at hw
  · rename_i hb; subst hb
    obtain ⟨v, h', h2, N, hN⟩ := wK_run hw
    exact ⟨_, _, h2, N, fun m hm => by simp [runOp, h1, hN m hm]⟩
  · rename_i hb
    have : b = false := by simpa using hb
    subst this
    exact ⟨_, _, hw, 0, fun m _ => by simp [runOp, h1]⟩

theorem wOps_run : ∀ {ops : List AOp} {E : Env} {h : Heap} {K : Env → Heap → Prop}, wOps FT HK ops E h K → ∃ E' h', K E' h' ∧ ∃ N, ∀ m, N ≤ m → runOps (callA FT HK m) ops E h = some (E', h')
  | [], E, h, K, hw => ⟨E, h, hw, 0, fun m _ => rfl⟩
  | o :: r, E, h, K, hw => by
    obtain ⟨E1, h1, h2, N, hN⟩ := wOp_run hw
    obtain ⟨E2, h3, h4, M, hM⟩ := wOps_run h2
    exact ⟨E2, h3, h4, N + M, fun m hm => by simp [runOps, hN m (by omega), hM m (by omega)]⟩

theorem wOpsD_run : ∀ {ops : List (AOp × Nat × Bool)} {E : Env} {h : Heap} {K : Env → Heap → Prop}, wOpsD FT HK ops E h K →
    ∃ E' h', K E' h' ∧ ∃ N, ∀ m, N ≤ m → runOpsD (callA FT HK m) (ops.map fun p => (p.1, p.2.2)) E h = some (E', h')
  | [], E, h, K, hw => ⟨E, h, hw, 0, fun m _ => rfl⟩
  | (o, i, ord) :: r, E, h, K, hw => by
    obtain ⟨E1, h1, ⟨ho, h2⟩, N, hN⟩ := wOp_run hw
    obtain ⟨E2, h3, h4, M, hM⟩ := wOpsD_run h2
    refine ⟨E2, h3, h4, N + M, fun m hm => ?_⟩
    simp only [List.map_cons, runOpsD, hN m (by omega)]
    rw [if_pos (by simpa using ho)]
    exact hM m (by omega)

theorem wOpsS_run {S A fr : List Nat} : ∀ {ops : List (AOp × Nat × Bool)} {E : Env} {h : Heap} {K : Env → Heap → Prop}, wOpsS FT HK S A fr ops E h K →
    ∃ E' h', K E' h' ∧ ∃ N, ∀ m, N ≤ m → ((∀ id ∈ ldIds (callA FT HK m) ops E h, id ∈ S) ∧ ∀ id ∈ alIds (callA FT HK m) fr ops E h, id ∈ A) ∧
      ∀ S' A' : List Nat, (∀ id ∈ S', id ∈ S) → (∀ id ∈ A', id ∈ A) → (∀ id ∈ ldIds (callA FT HK m) ops E h, id ∈ S') → runOpsS (callA FT HK m) S' A' fr ops E h = some (E', h')
  | [], E, h, K, hw => ⟨E, h, hw, 0, fun m _ => ⟨by simp [ldIds, alIds], fun _ _ _ _ _ => rfl⟩⟩
  | (o, i, ord) :: r, E, h, K, hw => by
    obtain ⟨hl, hw⟩ := hw
    obtain ⟨E1, h1, ⟨ho, hs, ha, h2⟩, N, hN⟩ := wOp_run hw
    obtain ⟨E2, h3, h4, M, hM⟩ := wOpsS_run h2
    refine ⟨E2, h3, h4, N + M, fun m hm => ?_⟩
    obtain ⟨⟨q1, q3⟩, q2⟩ := hM m (by omega)
    have hr := hN m (by omega)
    simp only [ldIds, alIds, runOpsS, hr]
    refine ⟨⟨fun id hid => ?_, fun id hid => ?_⟩, fun S' A' hS hA hL => ?_⟩
    · rcases List.mem_append.1 hid with h5 | h5
      · cases hx : ldX E ord o.k with
        | none => rw [hx] at h5; simp [ldL] at h5
        | some id' =>
          rw [hx] at h5
          simp only [ldL, List.mem_singleton] at h5
          subst h5
          exact hl _ hx
      · exact q1 id h5
    · rcases List.mem_append.1 hid with h5 | h5
      · split at h5
        · rename_i hf
          have := List.mem_range'_1.1 h5
          exact ha (List.contains_iff_mem.1 hf) id this.1 (by omega)
        · simp at h5
      · exact q3 id h5
    · rw [if_pos]
      · exact q2 S' A' hS hA fun id hid => hL id (List.mem_append.2 (.inr hid))
      · simp only [Bool.and_eq_true, Bool.or_eq_true, beq_iff_eq, List.all_eq_true, List.contains_iff_mem, decide_eq_true_eq]
        refine ⟨by simpa using ho, hs.imp (fun h => h) fun hs => ⟨fun id hid => hs.1 id (hS id hid), fun id hid => ?_⟩, ?_⟩
        · rcases Nat.lt_or_ge id h.length with hlt | hge
          · exact .inr (hs.2 id (hA id hid) hlt)
          · exact .inl hge
        · cases hx : ldX E ord o.k with
          | none => rfl
          | some id => simpa [ldOk] using hL id (List.mem_append.2 (.inl (by rw [hx]; simp [ldL])))

theorem wA_run : ∀ {c : AC} {E : Env} {h : Heap} {Q : Ex → Env → Heap → Prop}, wA FT HK c E h Q → ∃ ex E' h', Run FT HK c E h (ex, E', h') ∧ Q ex E' h' := by
  intro c
  induction c with
  | skip => exact fun hw => ⟨_, _, _, .of fun m => rfl, hw⟩
  | ret => exact fun hw => ⟨_, _, _, .of fun m => rfl, hw⟩
  | exit id => exact fun hw => ⟨_, _, _, .of fun m => rfl, hw⟩
  | reg ops keep =>
    intro E h Q hw
    obtain ⟨E', h', h1, N, hN⟩ := wOps_run hw
    exact ⟨_, _, _, ⟨N, fun m hm => by simp [exec, hN m hm]⟩, h1⟩
  | regd ops keep =>
    intro E h Q hw
    obtain ⟨E', h', h1, N, hN⟩ := wOpsD_run hw
    exact ⟨_, _, _, ⟨N, fun m hm => by simp only [exec]; rw [hN m hm]; rfl⟩, h1⟩
  | regs ops fr keep =>
    intro E h Q hw
    obtain ⟨S, A, hw⟩ := hw
    obtain ⟨E', h', h1, N, hN⟩ := wOpsS_run hw
    refine ⟨_, _, _, ⟨N, fun m hm => ?_⟩, h1⟩
    obtain ⟨⟨q1, q3⟩, q2⟩ := hN m hm
    simp only [exec]
    rw [q2 _ _ q1 q3 fun id hid => hid]; rfl
  | seq a b iha ihb =>
    intro E h Q hw
    obtain ⟨ex, E1, h1, h2, h3⟩ := iha hw
    cases ex with
    | nm =>
      obtain ⟨ex2, E2, h4, h5, h6⟩ := ihb h3
      exact ⟨ex2, E2, h4, h2.seq h5, h6⟩
    | ex i => exact ⟨_, _, _, h2.seqStop (by simp), h3⟩
    | rt => exact ⟨_, _, _, h2.seqStop (by simp), h3⟩
  | cond c a b iha ihb =>
    intro E h Q hw
    obtain ⟨s, h1, hw⟩ := oK_iff.1 hw
    unfold wCond at hw
    split at hw
    · rename_i t
      rw [wIf_eq] at hw
      cases t
      · simp only [Bool.false_eq_true, if_false] at hw
        obtain ⟨ex, E', h', ⟨N, hN⟩, h4⟩ := ihb hw
        exact ⟨ex, E', h', ⟨N, fun m hm => by simp only [exec, h1]; simpa using hN m hm⟩, h4⟩
      · simp only [if_true] at hw
        obtain ⟨ex, E', h', ⟨N, hN⟩, h4⟩ := iha hw
        exact ⟨ex, E', h', ⟨N, fun m hm => by simp only [exec, h1]; simpa using hN m hm⟩, h4⟩
    · exact hw.elim
  | block id a iha =>
    intro E h Q hw
    obtain ⟨ex, E', h', ⟨N, hN⟩, h2⟩ := iha hw
    cases ex with
    | nm => exact ⟨.nm, E', h', ⟨N, fun m hm => by simp [exec, hN m hm]⟩, h2⟩
    | rt => exact ⟨.rt, E', h', ⟨N, fun m hm => by simp [exec, hN m hm]⟩, h2⟩
    | ex i =>
      simp only [wBlk] at h2
      rw [wIf_eq] at h2
      split at h2
      · rename_i hi
        exact ⟨.nm, E', h', ⟨N, fun m hm => by simp [exec, hN m hm, hi]⟩, h2⟩
      · rename_i hi
        exact ⟨.ex i, E', h', ⟨N, fun m hm => by simp [exec, hN m hm, hi]⟩, h2⟩
  | loop ks a iha =>
    intro E h Q hw
    obtain ⟨ex, E', h', h1, h2⟩ := hw
    exact ⟨ex, E', h', h1.run, h2⟩
  | scope a iha =>
    intro E h Q hw
    obtain ⟨ex, E', h', ⟨N, hN⟩, h2⟩ := iha hw
    exact ⟨ex, E', h', ⟨N, fun m hm => by simp only [exec]; exact hN m hm⟩, h2⟩

/-- A call, by what must hold for its body. -/
theorem Cal.of {f : FuncId} {F : AFun} {args : List AV} {h : Heap} {R : AV → Heap → Prop} (hk : HK f = none) (hF : FT f = some F) (hl : args.length = F.np)
    (hw : wA FT HK F.body (params 0 args) h fun ex E' h' => wAnd (ex = .nm ∨ ex = .rt) (oK (resultsA F.res E' h') fun v => R v h')) : ∃ v h', Cal FT HK f args h v h' ∧ R v h' := by
  obtain ⟨ex, E', h', h1, h2, h3⟩ := wA_run hw
  obtain ⟨v, h4, h5⟩ := oK_iff.1 h3
  exact ⟨v, h', Run.call hk hF hl h1 h2 h4, h5⟩

/-- What a round of a loop must bring. -/
def wRound (I : Env → Heap → Prop) (μ : Env → Heap → Nat) (k : Nat) (R : Ex → Env → Heap → Prop) : Ex → Env → Heap → Prop
  | .nm, E, h => I E h ∧ μ E h < k
  | ex, E, h => R ex E h

/-- A loop by a measure. -/
theorem Lp.of {ks : List Nat} {c : AC} {R : Ex → Env → Heap → Prop} (I : Env → Heap → Prop) (μ : Env → Heap → Nat)
    (round : ∀ E h, I E h → wA FT HK c (E.keep ks) h (wRound I μ (μ E h) R)) :
    ∀ E h, I E h → ∃ ex E' h', Lp FT HK ks c E h (ex, E', h') ∧ R ex E' h' := by
  have key : ∀ n E h, μ E h = n → I E h → ∃ ex E' h', Lp FT HK ks c E h (ex, E', h') ∧ R ex E' h' := by
    intro n
    induction n using Nat.strongRecOn with
    | _ n ih =>
      intro E h hn hI
      obtain ⟨ex, E', h', h1, h2⟩ := wA_run (round E h hI)
      cases ex with
      | nm =>
        obtain ⟨h3, h4⟩ := h2
        obtain ⟨ex2, E2, h5, h6, h7⟩ := ih _ (by omega) E' h' rfl h3
        exact ⟨ex2, E2, h5, Lp.step h1 h6, h7⟩
      | ex i => exact ⟨_, _, _, Lp.stop (by simp) h1, h2⟩
      | rt => exact ⟨_, _, _, Lp.stop (by simp) h1, h2⟩
  exact fun E h hI => key _ E h rfl hI

theorem wrap_in {n : Int} (h : -9223372036854775808 ≤ n ∧ n ≤ 9223372036854775807) : IntKind.i64.wrap n = n := by
  rw [IntKind.wrap_i64]; omega

end wp
end
end Go.Ab


/- Looking things up, step by step: for simp. -/
namespace Go.Ab
set_option linter.unusedVariables false

def pickE (b : Bool) (v : Option AV) (r : Env) (t : Nat) : Option AV := match b with
  | true => v
  | false => r.get t

theorem get_cons (k t : Nat) (v : Option AV) (r : Env) : Env.get ((k, v) :: r) t = pickE (k == t) v r t := by
  by_cases h : k = t
  · subst h; simp [Env.get, pickE]
  · have h2 : (k == t) = false := by simpa using h
    rw [h2]; simp [Env.get, h, pickE]
theorem pickE_true (v : Option AV) (r : Env) (t : Nat) : pickE true v r t = v := rfl
theorem pickE_false (v : Option AV) (r : Env) (t : Nat) : pickE false v r t = r.get t := rfl
theorem pickE_congr {b b' : Bool} {v : Option AV} {r : Env} {t : Nat} (h : b = b') : pickE b v r t = pickE b' v r t := by rw [h]
theorem get_nil (t : Nat) : Env.get [] t = none := rfl
theorem keep_nil (E : Env) : E.keep [] = [] := rfl
theorem keep_cons (E : Env) (k : Nat) (ks : List Nat) : E.keep (k :: ks) = (k, E.get k) :: E.keep ks := rfl

theorem beq_tt : (true == true) = true := rfl
theorem beq_tf : (true == false) = false := rfl
theorem beq_ft : (false == true) = false := rfl
theorem beq_ff : (false == false) = true := rfl

section
variable {FT : FuncId → Option AFun} {HK : FuncId → Option Hook} {a b : AC} {E : Env} {h : Heap} {Q : Ex → Env → Heap → Prop}

theorem w_seq (hw : wA FT HK a E h (wSeq (fun E' h' => wA FT HK b E' h' Q) Q)) : wA FT HK (.seq a b) E h Q := hw
theorem w_seqN {w : Env → Heap → Prop} (hw : w E h) : wSeq w Q .nm E h := hw
theorem w_seqX {w : Env → Heap → Prop} {i : Nat} (hw : Q (.ex i) E h) : wSeq w Q (.ex i) E h := hw
theorem w_seqR {w : Env → Heap → Prop} (hw : Q .rt E h) : wSeq w Q .rt E h := hw
theorem w_scope (hw : wA FT HK a E h Q) : wA FT HK (.scope a) E h Q := hw
theorem w_blk {i : Nat} (hw : wA FT HK a E h (wBlk i Q)) : wA FT HK (.block i a) E h Q := hw
theorem w_blkN {i : Nat} (hw : Q .nm E h) : wBlk i Q .nm E h := hw
theorem w_blkX {i : Nat} (hw : Q .nm E h) : wBlk i Q (.ex i) E h := ⟨fun _ => hw, fun hc => absurd rfl hc⟩
theorem w_blkY {i j : Nat} (hj : (j == i) = false) (hw : Q (.ex j) E h) : wBlk i Q (.ex j) E h := ⟨fun hc => by subst hc; simp at hj, fun _ => hw⟩
theorem w_blkR {i : Nat} (hw : Q .rt E h) : wBlk i Q .rt E h := hw
theorem w_skip (hw : Q .nm E h) : wA FT HK .skip E h Q := hw
theorem w_ret (hw : Q .rt E h) : wA FT HK .ret E h Q := hw
theorem w_exit {i : Nat} (hw : Q (.ex i) E h) : wA FT HK (.exit i) E h Q := hw
theorem w_cond {c : AO} (t : Bool) (hc : evS E c = some (.bool t)) (ht : t = true → wA FT HK a E h Q) (hf : t = false → wA FT HK b E h Q) : wA FT HK (.cond c a b) E h Q := by
  show oK (evS E c) _
  rw [hc]
  exact ⟨ht, fun h2 => hf (by simpa using h2)⟩
theorem w_reg {ops : List AOp} {ks : List Nat} (hw : ∀ K : Env → Heap → Prop, (∀ E' h', Q .nm E' h' → K E' h') → wOps FT HK ops E h (fun E' h' => K (E'.keep ks) h')) : wA FT HK (.reg ops ks) E h Q :=
  hw _ fun _ _ h2 => h2
theorem w_regd {ops : List (AOp × Nat × Bool)} {ks : List Nat} (hw : ∀ K : Env → Heap → Prop, (∀ E' h', Q .nm E' h' → K E' h') → wOpsD FT HK ops E h (fun E' h' => K (E'.keep ks) h')) : wA FT HK (.regd ops ks) E h Q :=
  hw _ fun _ _ h2 => h2
theorem w_loop {ks : List Nat} (I : Env → Heap → Prop) (μ : Env → Heap → Nat) (R : Ex → Env → Heap → Prop) (h0 : I E h)
    (round : ∀ E h, I E h → wA FT HK a (E.keep ks) h (wRound I μ (μ E h) R)) (hQ : ∀ ex E' h', R ex E' h' → Q ex E' h') : wA FT HK (.loop ks a) E h Q :=
  wLoop_of (Lp.of I μ round E h h0) hQ
theorem w_roundN {I : Env → Heap → Prop} {μ : Env → Heap → Nat} {k : Nat} {R : Ex → Env → Heap → Prop} (h1 : I E h) (h2 : μ E h < k) : wRound I μ k R .nm E h := ⟨h1, h2⟩
theorem w_roundX {I : Env → Heap → Prop} {μ : Env → Heap → Nat} {k i : Nat} {R : Ex → Env → Heap → Prop} (h1 : R (.ex i) E h) : wRound I μ k R (.ex i) E h := h1
theorem w_roundR {I : Env → Heap → Prop} {μ : Env → Heap → Nat} {k : Nat} {R : Ex → Env → Heap → Prop} (h1 : R .rt E h) : wRound I μ k R .rt E h := h1
end

end Go.Ab


/- Slices of integers that came in; a block of one's own at the heap's end. -/
namespace Go.Ab
set_option linter.unusedVariables false

theorem IsSl.len {h : Heap} {s : SV} {e : ESz} {n : Nat} {vs : List SV} (hs : IsSl h s e n vs) : lenS false s = some (n : Int) := by
  rcases hs with ⟨rfl, rfl, rfl⟩ | ⟨id, off, cap, b, rfl, _⟩ <;> simp [lenS]

theorem IsSl.mono {h h' : Heap} {s : SV} {e : ESz} {n : Nat} {vs : List SV} (hs : IsSl h s e n vs) (hh : ∀ (i : Nat) (b : Blk), h[i]? = some b → h'[i]? = some b) : IsSl h' s e n vs := by
  rcases hs with hs | ⟨id, off, cap, b, h1, h2, h3⟩
  · exact .inl hs
  · exact .inr ⟨id, off, cap, b, h1, hh _ _ h2, h3⟩

theorem IsInts.at {h : Heap} {s : SV} {xs : List Int} (hs : IsInts h s xs) {i : Nat} {x : Int} (hi : xs[i]? = some x) :
    ∃ id off cap, s = .slc id off xs.length cap ∧ readN h id (off + i * 1) 1 = some [.int .i64 x] := by
  have hl := (List.getElem?_eq_some_iff.1 hi).1
  rcases hs with ⟨rfl, h1, h2⟩ | ⟨id, off, cap, b, h1, h2, h3, h4, h5⟩
  · omega
  · obtain ⟨cs, rw', rfl, hc⟩ := h5 (by omega)
    refine ⟨id, off, cap, h1, ?_⟩
    unfold readN
    rw [h2]
    simp only
    unfold cut at hc ⊢
    simp only [ESz.one_n] at hc
    split at hc
    · rename_i hle
      simp only [Option.some.injEq] at hc
      rw [if_pos (by omega)]
      have h6 : cs[off + i]? = some (.int .i64 x) := by
        have h7 : ((cs.drop off).take (xs.length * 1))[i]? = some (.int .i64 x) := by rw [hc]; simp [hi]
        rw [List.getElem?_take_of_lt (by omega), List.getElem?_drop] at h7
        exact h7
      have h8 : cs.drop (off + i * 1) = .int .i64 x :: cs.drop (off + i + 1) := by
        rw [Nat.mul_one]
        obtain ⟨h9, h10⟩ := List.getElem?_eq_some_iff.1 h6
        rw [List.drop_eq_getElem_cons h9, h10]
      rw [h8]; rfl
    · simp at hc

theorem rd_last {h : Heap} {cs : List SV} {rw' : Bool} {e : ESz} {k : Nat} {x : SV} (hx : cs[k]? = some x) : readN (h ++ [.cells cs rw' e]) h.length k 1 = some [x] := by
  obtain ⟨h9, h10⟩ := List.getElem?_eq_some_iff.1 hx
  unfold readN cut
  simp only [List.getElem?_append_right (Nat.le_refl _), Nat.sub_self, List.getElem?_cons_zero]
  rw [if_pos (by omega), List.drop_eq_getElem_cons h9, h10]; rfl

theorem wr_last {h : Heap} {cs : List SV} {e : ESz} {k : Nat} {x : SV} (hk : k < cs.length) : writeN (h ++ [.cells cs true e]) h.length k [x] = some (h ++ [.cells (cs.set k x) true e]) := by
  unfold writeN splice
  simp only [List.getElem?_append_right (Nat.le_refl _), Nat.sub_self, List.getElem?_cons_zero, List.length_singleton]
  rw [if_pos (by omega)]
  congr 1
  rw [List.set_append_right _ _ (Nat.le_refl _), Nat.sub_self]
  simp only [List.set_cons_zero]
  rw [List.set_eq_take_append_cons_drop, if_pos hk]
  simp

theorem rep1_get {z : SV} : ∀ {n k : Nat}, k < n → (rep [z] n)[k]? = some z
  | n + 1, 0, _ => rfl
  | n + 1, k + 1, h => by simp [rep]; exact rep1_get (by omega)

theorem mono_app {h t : Heap} (i : Nat) (b : Blk) (hb : h[i]? = some b) : (h ++ t)[i]? = some b := by
  rw [List.getElem?_append_left (List.getElem?_eq_some_iff.1 hb).1, hb]

end Go.Ab

