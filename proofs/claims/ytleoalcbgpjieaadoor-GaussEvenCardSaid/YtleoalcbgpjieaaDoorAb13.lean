import Derived.Test.YtleoalcbgpjieaaDoorAb10
/- Regions whose order is the text's. -/
namespace Go.Ab
variable [Base]
set_option linter.unusedSectionVars false
set_option linter.unusedVariables false
variable {P : Program} {β : Bt} {E : Env} {h : Heap} {w : World} {a : Act}

def okG (os : Array Oper) : Option (Nat × Bool) → Option (Nat × Bool) → Bool
  | none, none => true
  | some (t, b), some (j, want) => decide (b = want) && decide ((os[j]?).bind (·.dst) = some t)
  | _, _ => false

def okAOp (P : Program) (n : Nat) (os : Array Oper) (x : AOp) (o : Oper) : Bool :=
  okOp P x.k o.op && decide (x.dst = o.dst) && (match x.dst with | some t => decide (t < n) | none => true) && okG os x.guard o.guard

def okOps (P : Program) (n : Nat) (os : Array Oper) : List AOp → List Oper → Bool
  | [], [] => true
  | x :: xs, o :: r => okAOp P n os x o && okOps P n os xs r
  | _, _ => false

theorem wants_rel {os : Array Oper} {x : AOp} {o : Oper} {b : Bool} (hok : okG os x.guard o.guard = true) (hE : ERel β E a.tmps) (hw : wants E x.guard = some b) :
    Region.wanted o (yielded os a.tmps) = b := by
  unfold okG at hok
  split at hok
  · rename_i h1 h2
    simp [h1, wants] at hw
    subst hw
    simp [Region.wanted, h2]
  · rename_i t b' j want h1 h2
    simp only [Bool.and_eq_true, decide_eq_true_eq] at hok
    obtain ⟨rfl, hd⟩ := hok
    simp only [h1, wants] at hw
    split at hw
    · rename_i c hc
      simp at hw; subst hw
      obtain ⟨cv, k1, k2⟩ := hE _ _ hc
      cases k2 with
      | sc k2 =>
        cases k2
        have hy : yielded os a.tmps j = some c := by simp [yielded, hd, k1]
        simp [Region.wanted, h2, hy]
    · rename_i hc
      simp at hw; subst hw
      obtain ⟨cv, k1, k2⟩ := hE _ _ hc
      cases k2 with
      | tup k2 =>
        cases k2
        have hy : yielded os a.tmps j = none := by simp [yielded, hd, k1]
        simp [Region.wanted, h2, hy]
    · simp at hw
  · simp at hok

theorem put_size (a : Act) (d : Option Nat) (c : Value) : (a.put d c).tmps.size = a.tmps.size := by
  cases d <;> simp [Act.put]
theorem put_defers (a : Act) (d : Option Nat) (c : Value) : (a.put d c).defers = a.defers := by
  cases d <;> simp [Act.put]

/-- One operation with its guard. -/
theorem runOp_sound {cf : CF} (CO : CallOK P cf) {os : Array Oper} {n : Nat} {x : AOp} {o : Oper} {E' : Env} {h' : Heap} (hok : okAOp P n os x o = true) (hn : a.tmps.size = n)
    (hE : ERel β E a.tmps) (R : Rep β h w) (hf : fresh β h h') (hs : runOp cf x E h = some (E', h')) {K : Act → World → Prop} {Q : Exit → Act → World → Prop}
    (hK : ∀ β' w' a', Stp β h w β' h' w' → Rep β' h' w' → ERel β' E' a'.tmps → a'.tmps.size = n → a'.defers = a.defers → K a' w') :
    if Region.wanted o (yielded os a.tmps) then o.wp P a w K Q else K (a.put o.dst undef) w := by
  simp only [okAOp, Bool.and_eq_true, decide_eq_true_eq] at hok
  obtain ⟨⟨⟨k1, k2⟩, k3⟩, k4⟩ := hok
  have hd : ∀ t, x.dst = some t → t < a.tmps.size := by
    intro t ht
    rw [ht] at k3
    simp at k3; omega
  unfold runOp at hs
  split at hs
  · rename_i hw
    rw [wants_rel k4 hE hw, if_pos rfl]
    simp only [Option.map_eq_some_iff, Prod.mk.injEq] at hs
    obtain ⟨⟨v, h1⟩, hr, rfl, rfl⟩ := hs
    refine op_sound CO k1 hE R hf hr fun β' w' c s1 s2 s3 => ?_
    refine hK β' w' _ s1 s2 ?_ (by rw [put_size]; exact hn) (put_defers _ _ _)
    rw [← k2]
    exact (hE.mono s1.ext).bind x.dst v c hd s3 a.defers
  · rename_i hw
    rw [wants_rel k4 hE hw]
    simp at hs
    obtain ⟨rfl, rfl⟩ := hs
    simp only [Bool.false_eq_true, if_false]
    refine hK β w _ (Stp.refl _ _ _) R ?_ (by rw [put_size]; exact hn) (put_defers _ _ _)
    rw [← k2]
    exact hE.bind x.dst (some (.tup [])) undef hd (fun u hu => by cases hu; exact .tup .nil) a.defers
  · simp at hs

theorem runOp_len {cf : CF} (CO : CallOK P cf) {x : AOp} {E' : Env} {h' : Heap} (hs : runOp cf x E h = some (E', h')) : h.length ≤ h'.length := by
  unfold runOp at hs
  split at hs
  · simp only [Option.map_eq_some_iff, Prod.mk.injEq] at hs
    obtain ⟨⟨v, h1⟩, hr, rfl, rfl⟩ := hs
    exact opRun_len CO hr
  · simp at hs; rw [hs.2]; exact Nat.le_refl _
  · simp at hs

theorem runOps_len {cf : CF} (CO : CallOK P cf) : ∀ {xs : List AOp} {E : Env} {h : Heap} {E' : Env} {h' : Heap}, runOps cf xs E h = some (E', h') → h.length ≤ h'.length
  | [], E, h, E', h', hs => by simp [runOps] at hs; rw [hs.2]; exact Nat.le_refl _
  | x :: xs, E, h, E', h', hs => by
    simp only [runOps] at hs
    split at hs
    · rename_i h1
      exact Nat.le_trans (runOp_len CO h1) (runOps_len CO hs)
    · simp at hs

theorem runOpsS_len {cf : CF} {S A fr : List Nat} (CO : CallOK P cf) : ∀ {xs : List (AOp × Nat × Bool)} {E : Env} {h : Heap} {E' : Env} {h' : Heap}, runOpsS cf S A fr xs E h = some (E', h') → h.length ≤ h'.length
  | [], E, h, E', h', hs => by simp [runOpsS] at hs; rw [hs.2]; exact Nat.le_refl _
  | x :: xs, E, h, E', h', hs => by
    simp only [runOpsS] at hs
    split at hs
    · rename_i h1
      split at hs
      · exact Nat.le_trans (runOp_len CO h1) (runOpsS_len CO hs)
      · simp at hs
    · simp at hs

theorem fresh.first {β : Bt} {h h1 h' : Heap} (hf : fresh β h h') (hl : h1.length ≤ h'.length) : fresh β h h1 := fun id a b => hf id a (by omega)
theorem fresh.rest {β β1 : Bt} {h h1 h' : Heap} {w w1 : World} (hf : fresh β h h') (s : Stp β h w β1 h1 w1) : fresh β1 h1 h' := fun id ha hb => by
  cases hc : β1 id with
  | none => rfl
  | some L =>
    rcases s.dom id L hc with h2 | h2
    · rw [hf id (Nat.le_trans s.len ha) hb] at h2; simp at h2
    · omega

theorem ops_sound {cf : CF} (CO : CallOK P cf) {os : Array Oper} {n : Nat} {Q : Exit → Act → World → Prop} : ∀ {xs : List AOp} {r : List Oper} {β : Bt} {E : Env} {h : Heap} {w : World} {a : Act} {E' : Env} {h' : Heap},
    okOps P n os xs r = true → a.tmps.size = n → ERel β E a.tmps → Rep β h w → fresh β h h' → runOps cf xs E h = some (E', h') →
    (∀ β' w' a', Stp β h w β' h' w' → Rep β' h' w' → ERel β' E' a'.tmps → a'.tmps.size = n → a'.defers = a.defers → Q .normal a' w') → wpList P os Q r a w
  | [], [], β, E, h, w, a, E', h', _, hn, hE, R, hf, hs, hK => by
    simp [runOps] at hs
    obtain ⟨rfl, rfl⟩ := hs
    exact wpList_nil (hK β w a (Stp.refl _ _ _) R hE hn rfl)
  | x :: xs, o :: r, β, E, h, w, a, E', h', hok, hn, hE, R, hf, hs, hK => by
    simp only [okOps, Bool.and_eq_true] at hok
    simp only [runOps] at hs
    split at hs
    · rename_i E1 h1 hx
      refine wpList_step fun K hK' => runOp_sound CO hok.1 hn hE R (hf.first (runOps_len CO hs)) hx fun β1 w1 a1 s1 s2 s3 s4 s5 => ?_
      refine hK' _ _ (ops_sound CO hok.2 s4 s3 s2 (hf.rest s1) hs fun β2 w2 a2 t1 t2 t3 t4 t5 => hK β2 w2 a2 (s1.trans t1) t2 t3 t4 (t5.trans s5))
    · simp at hs
  | [], _ :: _, _, _, _, _, _, _, _, hok, _, _, _, _, _, _ => by simp [okOps] at hok
  | _ :: _, [], _, _, _, _, _, _, _, hok, _, _, _, _, _, _ => by simp [okOps] at hok

end Go.Ab


/- Regions whose order is open: what an operation looks at. -/
namespace Go.Ab
set_option linter.unusedVariables false

def aoT : AO → List Nat
  | .t n => [n]
  | .k _ => []
def aosT (l : List AO) : List Nat := l.flatMap aoT
def oaoT : Option AO → List Nat
  | some x => aoT x
  | none => []

def reads : AK → List Nat
  | .mv x => aoT x
  | .pick c a b => aoT c ++ aoT a ++ aoT b
  | .bin _ x y => aoT x ++ aoT y
  | .beq _ x y => aoT x ++ aoT y
  | .isnil _ _ x => aoT x
  | .un _ x => aoT x
  | .conv _ x => aoT x
  | .len _ x => aoT x
  | .mm _ x ys => aoT x ++ aosT ys
  | .idxA _ x i => aoT x ++ aoT i
  | .idxP _ _ x i => aoT x ++ aoT i
  | .idxS x i => aoT x ++ aoT i
  | .idxG _ _ _ x i => aoT x ++ aoT i
  | .fldA _ x => aoT x
  | .fld _ _ _ x => aoT x
  | .ld _ _ x => aoT x
  | .st _ a x => aoT a ++ aoT x
  | .new _ => []
  | .box x => aoT x
  | .bld _ ps => aosT (ps.map (·.2.2))
  | .bsl _ _ _ ps => aosT (ps.map (·.2))
  | .mk _ _ _ l c => aoT l ++ aoT c
  | .sl _ x lo hi => aoT x ++ oaoT lo ++ oaoT hi
  | .slS x lo hi => aoT x ++ oaoT lo ++ oaoT hi
  | .app _ _ _ x y => aoT x ++ aoT y
  | .call _ args => aosT args
  | .callv x args => aoT x ++ aosT args
  | .ext x _ => aoT x
  | .mkf _ caps => aosT caps
  | .nilc x => aoT x
  | .newT _ _ => []
  | .aeq _ _ x y => aoT x ++ aoT y
  | .peq _ x y => aoT x ++ aoT y
  | .sl1 x lo hi => aoT x ++ oaoT lo ++ oaoT hi
  | .usd x => aoT x
  | .ustr _ x n => aoT x ++ aoT n
  | .cvb x => aoT x
  | .cbs x => aoT x
  | .veq _ x y => aoT x ++ aoT y
  | .seq2 _ x y => aoT x ++ aoT y
  | .car _ x y c => aoT x ++ aoT y ++ aoT c
  | .cpy _ x y => aoT x ++ aoT y
  | .mpM _ => []
  | .mpL _ _ _ x k => aoT x ++ aoT k
  | .mpU _ x k v => aoT x ++ aoT k ++ aoT v
  | .mpR x => aoT x
  | .mpT x => aoT x
  | .mpN x => aoT x
  | .mpX x => aoT x
  | .mpE _ _ x k => aoT x ++ aoT k
  | .mpS _ x s v => aoT x ++ aoT s ++ aoT v
  | .bad => []

def isPure : AK → Bool
  | .mv _ | .pick .. | .bin .. | .beq .. | .isnil .. | .un .. | .conv .. | .len .. | .mm .. | .idxA .. | .idxP .. | .idxS .. | .idxG .. | .fldA .. | .fld .. | .bld .. | .slS .. | .ext .. | .mkf .. | .nilc .. | .aeq .. | .peq .. | .usd .. | .sl1 .. | .veq .. | .seq2 .. => true
  | _ => false

/-- .. or a load. -/
def isSoft : AK → Bool
  | .ld .. => true
  | .sl .. => true
  | k => isPure k

/-- A new row whose parts are at hand. -/
def isAl : AK → Bool
  | .bsl .. => true
  | _ => false
section congr
variable {E E' : Env}

theorem ev_congr {x : AO} (h : ∀ t ∈ aoT x, E.get t = E'.get t) : ev E x = ev E' x := by
  cases x with
  | t n => exact h n (by simp [aoT])
  | k v => rfl

theorem evS_congr {x : AO} (h : ∀ t ∈ aoT x, E.get t = E'.get t) : evS E x = evS E' x := by
  unfold evS; rw [ev_congr h]

theorem evs_congr : ∀ {xs : List AO}, (∀ t ∈ aosT xs, E.get t = E'.get t) → evs E xs = evs E' xs
  | [], _ => rfl
  | x :: xs, h => by
    simp only [evs]
    rw [ev_congr fun t ht => h t (by simp [aosT, ht]), evs_congr fun t ht => h t (by simp only [aosT, List.flatMap_cons, List.mem_append] at ht ⊢; exact .inr ht)]

theorem evSs_congr : ∀ {xs : List AO}, (∀ t ∈ aosT xs, E.get t = E'.get t) → evSs E xs = evSs E' xs
  | [], _ => rfl
  | x :: xs, h => by
    simp only [evSs]
    rw [evS_congr fun t ht => h t (by simp [aosT, ht]), evSs_congr fun t ht => h t (by simp only [aosT, List.flatMap_cons, List.mem_append] at ht ⊢; exact .inr ht)]

theorem evParts_congr : ∀ {ps : List (Nat × Nat × AO)}, (∀ t ∈ aosT (ps.map (·.2.2)), E.get t = E'.get t) → evParts E ps = evParts E' ps
  | [], _ => rfl
  | (o, s, x) :: ps, h => by
    simp only [evParts]
    rw [ev_congr fun t ht => h t (by simp [aosT, ht]), evParts_congr fun t ht => h t (by simp only [aosT, List.map_cons, List.flatMap_cons, List.mem_append] at ht ⊢; exact .inr ht)]

theorem bnd_congr {d : Nat} {x : Option AO} (h : ∀ t ∈ oaoT x, E.get t = E'.get t) : bnd E d x = bnd E' d x := by
  cases x with
  | none => rfl
  | some x => simp only [bnd]; rw [evS_congr h]

theorem step1_congr {h : Heap} {k : AK} (hr : ∀ t ∈ reads k, E.get t = E'.get t) : step1 E h k = step1 E' h k := by
  have l1 : ∀ {a b : List Nat}, (∀ t ∈ a ++ b, E.get t = E'.get t) → ∀ t ∈ a, E.get t = E'.get t := fun h t ht => h t (by simp [ht])
  have l2 : ∀ {a b : List Nat}, (∀ t ∈ a ++ b, E.get t = E'.get t) → ∀ t ∈ b, E.get t = E'.get t := fun h t ht => h t (by simp [ht])
  cases k <;> simp only [reads] at hr <;> simp only [step1]
  case mv x => rw [ev_congr hr]
  case pick c a b => rw [evS_congr (l1 (l1 hr)), ev_congr (l2 (l1 hr)), ev_congr (l2 hr)]
  case bin op x y => rw [evS_congr (l1 hr), evS_congr (l2 hr)]
  case beq op x y => rw [evS_congr (l1 hr), evS_congr (l2 hr)]
  case isnil kd neg x => rw [evS_congr hr]
  case un op x => rw [evS_congr hr]
  case conv k x => rw [evS_congr hr]
  case len str x => rw [evS_congr hr]
  case mm mx x ys => rw [evS_congr (l1 hr), evSs_congr (l2 hr)]
  case idxA esz x i => rw [evS_congr (l1 hr), evS_congr (l2 hr)]
  case idxP n esz x i => rw [evS_congr (l1 hr), evS_congr (l2 hr)]
  case idxS x i => rw [evS_congr (l1 hr), evS_congr (l2 hr)]
  case idxG n esz agg x i => rw [ev_congr (l1 hr), evS_congr (l2 hr)]
  case fldA off x => rw [evS_congr hr]
  case fld off size agg x => rw [ev_congr hr]
  case ld n agg x => rw [evS_congr hr]
  case st n a x => rw [evS_congr (l1 hr), ev_congr (l2 hr)]
  case box x => rw [ev_congr hr]
  case bld zero ps => rw [evParts_congr hr]
  case bsl esz zero len ps =>
    rw [evParts_congr (E := E) (E' := E') (ps := ps.map fun p => (p.1 * esz.n, esz.n, p.2)) (fun t ht => hr t (by simpa [List.map_map, Function.comp_def] using ht))]
  case mk esz bytes zero l c => rw [evS_congr (l1 hr), evS_congr (l2 hr)]
  case sl esz x lo hi => rw [evS_congr (l1 (l1 hr)), bnd_congr (l2 (l1 hr))]; simp only [bnd_congr (l2 hr)]
  case slS x lo hi => rw [evS_congr (l1 (l1 hr)), bnd_congr (l2 (l1 hr))]; simp only [bnd_congr (l2 hr)]
  case app esz bytes zero x y => rw [evS_congr (l1 hr), evS_congr (l2 hr)]
  case ext x i => rw [ev_congr hr]
  case mkf f caps => rw [evSs_congr hr]
  case nilc x => rw [evS_congr hr]
  case aeq neg n x y => rw [ev_congr (l1 hr), ev_congr (l2 hr)]
  case peq neg x y => rw [evS_congr (l1 hr), evS_congr (l2 hr)]
  case usd x => rw [evS_congr hr]
  case cvb x => rw [evS_congr hr]
  case cbs x => rw [evS_congr hr]
  case veq neg x y => rw [ev_congr (l1 hr), ev_congr (l2 hr)]
  case seq2 neg x y => rw [ev_congr (l1 hr), ev_congr (l2 hr)]
  case car sb x y c => rw [evS_congr (l1 (l1 hr)), evS_congr (l2 (l1 hr)), evS_congr (l2 hr)]
  case cpy esz x y => rw [evS_congr (l1 hr), evS_congr (l2 hr)]
  case mpL z zero ok x k => rw [evS_congr (l1 hr), ev_congr (l2 hr)]
  case mpU z x k v => rw [evS_congr (l1 (l1 hr)), ev_congr (l2 (l1 hr)), ev_congr (l2 hr)]
  case mpR x => rw [evS_congr hr]
  case mpT x => rw [evS_congr hr]
  case mpN x => rw [evS_congr hr]
  case mpE z zero x k => rw [evS_congr (l1 hr), ev_congr (l2 hr)]
  case mpS z x s v => rw [evS_congr (l1 (l1 hr)), evS_congr (l2 (l1 hr)), ev_congr (l2 hr)]
  case sl1 x lo hi => rw [evS_congr (l1 (l1 hr)), bnd_congr (l2 (l1 hr))]; simp only [bnd_congr (l2 hr)]
  case ustr t x n => rw [evS_congr (l1 hr), evS_congr (l2 hr)]

theorem opRun_congr {cf : CF} {h : Heap} {k : AK} (hr : ∀ t ∈ reads k, E.get t = E'.get t) : opRun cf E h k = opRun cf E' h k := by
  unfold opRun
  split
  · rw [evs_congr hr]
  · simp only [reads] at hr
    rw [evS_congr fun t ht => hr t (by simp [ht]), evs_congr fun t ht => hr t (by simp [ht])]
  · exact step1_congr hr

theorem wants_congr {g : Option (Nat × Bool)} (h : ∀ t b, g = some (t, b) → E.get t = E'.get t) : wants E g = wants E' g := by
  cases g with
  | none => rfl
  | some p => simp only [wants]; rw [h p.1 p.2 rfl]
end congr

theorem pure_run {cf : CF} {E : Env} {k : AK} (hp : isPure k = true) {h : Heap} {v : Option AV} {h' : Heap} (hs : opRun cf E h k = some (v, h')) : h' = h ∧ ∀ h2, opRun cf E h2 k = some (v, h2) := by
  have key : ∀ h1 h2 : Heap, opRun cf E h1 k = (opRun cf E h2 k).map fun r => (r.1, h1) := by
    intro h1 h2
    cases k <;> simp [isPure] at hp <;> simp only [opRun, step1]
    all_goals first
      | (simp [Option.map_bind, Function.comp_def]; done)
      | (split <;> simp [Option.map_bind, Function.comp_def]; done)
      | skip
    case pick => split <;> (try split) <;> simp [Function.comp_def]
    case idxS => split <;> (try split) <;> simp [Function.comp_def]
    case aeq => split <;> (try split) <;> simp [Function.comp_def]
    case idxG => split <;> (try split) <;> simp [Option.map_bind, Function.comp_def]
  have h1 := key h h
  rw [hs] at h1
  simp at h1
  refine ⟨h1, fun h2 => ?_⟩
  rw [key h2 h, hs]
  simp

theorem soft_run {cf : CF} {E : Env} {k : AK} (hp : isSoft k = true) {h : Heap} {v : Option AV} {h' : Heap} (hr : opRun cf E h k = some (v, h')) : h' = h := by
  cases hk : k
  case ld n agg a =>
    rw [hk] at hr
    simp only [opRun, step1] at hr
    split at hr
    · simp only [Option.bind_eq_some_iff, Option.map_eq_some_iff, Prod.mk.injEq] at hr
      obtain ⟨_, _, _, _, _, hh⟩ := hr
      exact hh.symm
    · simp at hr
  case sl esz a lo hi =>
    rw [hk] at hr
    simp only [opRun, step1, Option.bind_eq_some_iff, Option.map_eq_some_iff, Prod.mk.injEq] at hr
    obtain ⟨_, _, _, _, _, _, _, _, _, _, _, hh⟩ := hr
    exact hh.symm
  all_goals
    have hp2 : isPure k = true := by rw [hk] at hp ⊢; exact hp
    exact (pure_run hp2 hr).1
def aoEq : AO → AO → Bool
  | .t a, .t b => decide (a = b)
  | _, _ => false
theorem aoEq_eq {x y : AO} (h : aoEq x y = true) : x = y := by
  cases x <;> cases y <;> simp [aoEq] at h
  rw [h]
/-- A map's entry that is made, or found, for a key: looking the key up tells the same before and after. -/
def twinK : AK → AK → Bool
  | .mpL z zero false a k, .mpE z' zero' a' k' => decide (z = z') && decide (zero = zero') && aoEq a a' && aoEq k k'
  | _, _ => false
theorem findI_new [Base] {z : ESz} {cs ks zero : List SV} {ns : List Int} (hl : ns.length = z.kw) (hv : zero.length = z.vw) (hm : cs.length % (z.kw + z.vw) = 0) (h0 : 0 < z.kw) (hk : intsOf ks = some ns) (hf : findI z cs ns = none) :
    findI z (cs ++ ks ++ zero) ns = some (cs.length / (z.kw + z.vw)) ∧ entV z (cs ++ ks ++ zero) (cs.length / (z.kw + z.vw)) = zero := by
  have hks : ks.length = z.kw := by rw [ints_len hk, List.length_map, hl]
  have hq : cs.length = cs.length / (z.kw + z.vw) * (z.kw + z.vw) := by
    have := Nat.div_add_mod cs.length (z.kw + z.vw)
    rw [hm, Nat.add_zero, Nat.mul_comm] at this
    exact this.symm
  generalize hn : cs.length / (z.kw + z.vw) = n at hq
  obtain ⟨l1, l2⟩ := ent_last hq hks hv
  refine ⟨?_, l2⟩
  have hlen : (cs ++ ks ++ zero).length / (z.kw + z.vw) = n + 1 := by
    have : (cs ++ ks ++ zero).length = (n + 1) * (z.kw + z.vw) := by
      rw [List.length_append, List.length_append, hq, hks, hv, Nat.add_mul, Nat.one_mul]; omega
    rw [this]
    exact Nat.mul_div_cancel _ (by omega)
  have hkeys : keysI z (cs ++ ks ++ zero) = keysI z cs ++ [ns] := by
    unfold keysI
    rw [hlen, hn, List.range_succ, List.map_append, List.map_cons, List.map_nil, l1, hk, Option.getD_some]
    have e : (List.range n).map (fun i => (intsOf (entK z (cs ++ ks ++ zero) i)).getD []) = (List.range n).map (fun i => (intsOf (entK z cs i)).getD []) := List.map_congr_left fun i hi => by
      have := (ent_app (r := ks ++ zero) hq (List.mem_range.1 hi)).1
      rw [← List.append_assoc] at this
      rw [this]
    rw [e]
  unfold findI at hf ⊢
  rw [hkeys, List.findIdx?_append, hf, keysI_len, hn]
  have e : List.findIdx? (fun x => x == ns) [ns] = some 0 := by rw [List.findIdx?_cons, if_pos (beq_self_eq_true ns)]
  rw [e]
  show some (0 + n) = some n
  rw [Nat.zero_add]
theorem twin_run [Base] {E E' : Env} {x y : AK} (ht : twinK x y = true) (hr : ∀ t ∈ reads x, E.get t = E'.get t) {h h' : Heap} {v u : Option AV} (h1 : step1 E h x = some (v, h)) (h2 : step1 E' h y = some (u, h')) : step1 E h' x = some (v, h') := by
  unfold twinK at ht
  split at ht
  case h_2 => cases ht
  rename_i z zero a k z' zero' a' k'
  simp only [Bool.and_eq_true, decide_eq_true_eq] at ht
  obtain ⟨⟨⟨rfl, rfl⟩, ha⟩, hk⟩ := ht
  obtain rfl := aoEq_eq ha
  obtain rfl := aoEq_eq hk
  clear ha hk
  simp only [reads] at hr
  simp only [step1] at h1 h2 ⊢
  rw [← evS_congr (E := E) (E' := E') fun t ht => hr t (by simp [ht]), ← ev_congr (E := E) (E' := E') fun t ht => hr t (by simp [ht])] at h2
  cases ha : evS E a with
  | none => rw [ha] at h1; simp at h1
  | some s =>
    rw [ha] at h1 h2
    cases s
    case mapv id =>
      simp only at h1 h2 ⊢
      cases hg : h[id]? with
      | none => rw [hg] at h1; simp at h1
      | some b =>
        rw [hg] at h1 h2
        have hid := (List.getElem?_eq_some_iff.1 hg).1
        cases b
        case cells cs rw' e =>
          cases rw'
          · simp at h1
          · simp only at h1 h2
            split at h1
            case isFalse => cases h1
            rename_i he
            subst he
            rw [if_pos rfl] at h2
            simp only [Option.bind_eq_some_iff] at h1 h2
            obtain ⟨kv, hkv, ks, hks, ns, hns, h1⟩ := h1
            obtain ⟨kv', hkv', ks', hks', ns', hns', h2⟩ := h2
            rw [hkv] at hkv'
            obtain rfl := Option.some.inj hkv'
            rw [hks] at hks'
            obtain rfl := Option.some.inj hks'
            rw [hns] at hns'
            obtain rfl := Option.some.inj hns'
            split at h1
            case isFalse => cases h1
            rename_i hl
            split at h2
            case isFalse => cases h2
            rename_i hl2
            simp only [Option.some.injEq, Prod.mk.injEq] at h1 h2
            cases hf : findI e cs ns with
            | some j =>
              rw [hf] at h1 h2
              simp only [Prod.mk.injEq] at h2
              obtain ⟨-, rfl⟩ := h2
              rw [hg]
              simp only [if_true, hkv, hks, hns, Option.bind_some, hl, hf]
              exact congrArg some (Prod.ext h1.1 rfl)
            | none =>
              rw [hf] at h1 h2
              simp only [Prod.mk.injEq] at h2
              obtain ⟨-, rfl⟩ := h2
              rw [List.getElem?_set_self hid]
              simp only [if_true, hkv, hks, hns, Option.bind_some, hl]
              have hnew := findI_new hl hl2.2.1 hl2.2.2.1 hl2.2.2.2 hns hf
              rw [hnew.1]
              simp only [hnew.2]
              exact congrArg some (Prod.ext h1.1 rfl)
        all_goals simp at h1
    all_goals simp at h1

theorem al_run {cf : CF} {E : Env} {k : AK} (ha : isAl k = true) {h : Heap} {v : Option AV} {h' : Heap} (hs : opRun cf E h k = some (v, h')) : ∃ N, h' = h ++ N ∧ ∀ g : Heap, g.length = h.length → opRun cf E g k = some (v, g ++ N) := by
  cases k <;> simp [isAl] at ha
  case bsl esz zero len parts =>
    simp only [opRun, step1] at hs ⊢
    split at hs
    · rename_i hl
      simp only [Option.bind_eq_some_iff, Option.map_eq_some_iff, Prod.mk.injEq] at hs
      obtain ⟨ps, h1, cs, h2, rfl, rfl⟩ := hs
      exact ⟨_, rfl, fun g hg => by rw [h1]; simp only [Option.bind_some, h2, Option.map_some, hg, if_pos hl]⟩
    · cases hs

theorem Env.get_keep_mem (E : Env) (t : Nat) : ∀ ks : List Nat, t ∈ ks → Env.get (E.keep ks) t = E.get t
  | [], h => by simp at h
  | k :: ks, h => by
    simp only [Env.keep, List.map_cons, Env.get]
    by_cases e : k = t
    · subst e; simp
    · rw [if_neg e]
      exact Env.get_keep_mem E t ks (by simp at h; rcases h with h | h; exact absurd h.symm e; exact h)

theorem bindE_get (d : Option Nat) (v : Option AV) (E : Env) (t : Nat) : (bindE d v E).get t = if d = some t then v else E.get t := by
  cases d with
  | none => simp [bindE]
  | some s => simp [bindE, Env.get]

end Go.Ab


/- Regions whose order is open: the conditions that are checked. -/
namespace Go.Ab
set_option linter.unusedVariables false

abbrev XOp := AOp × Nat × Bool

/-- What must come before: a set of numbers, as the bits of one. -/
def predsOf : List (Nat × Nat) → Nat → Nat
  | [], _ => 0
  | (i, l) :: r, j => if i = j then l else predsOf r j

def edgesOf (os : Array Oper) (i : Nat) : List Nat := match os[i]? with
  | some o => (o.after.toList.filter fun e => Region.binds .any e).map (·.on)
  | none => []

def orAll (acc : List (Nat × Nat)) : List Nat → Nat
  | [] => 0
  | j :: r => (1 <<< j) ||| (predsOf acc j ||| orAll acc r)
def addPreds (os : Array Oper) (acc : List (Nat × Nat)) (i : Nat) : Nat := orAll acc (edgesOf os i)

def allPreds (os : Array Oper) : List Nat → List (Nat × Nat) → List (Nat × Nat)
  | [], acc => acc
  | i :: r, acc => allPreds os r ((i, addPreds os acc i) :: acc)

def guardT : Option (Nat × Bool) → List Nat
  | some (t, _) => [t]
  | none => []

def readsX (x : AOp) : List Nat := reads x.k ++ guardT x.guard

def notIn (d : Option Nat) (l : List Nat) : Bool := match d with
  | some t => !l.contains t
  | none => true

def apart (x y : AOp) : Bool := notIn x.dst (readsX y) && notIn y.dst (readsX x) && (match x.dst with | some t => decide (y.dst ≠ some t) | none => true)

/-- What looks at no memory; .. or loads, and is not marked. -/
def pureX (x : XOp) : Bool := isPure x.1.k
def softX (x : XOp) : Bool := isPure x.1.k || (isSoft x.1.k && !x.2.2)
/-- What may change memory. -/
def mayX (x : XOp) : Bool := x.2.2 && !isSoft x.1.k
def pairOK (sf al : XOp → Bool) (acc : List (Nat × Nat)) (x y : XOp) : Bool :=
  decide (x.2.1 ≠ y.2.1) && ((predsOf acc y.2.1).testBit x.2.1 || (predsOf acc x.2.1).testBit y.2.1 ||
    (apart x.1 y.1 && (!mayX x || sf y) && (!mayX y || (sf x || al x))))

def okPairs (sf al : XOp → Bool) (acc : List (Nat × Nat)) : List XOp → Bool
  | [] => true
  | x :: r => r.all (pairOK sf al acc x) && okPairs sf al acc r

def okTop (os : Array Oper) (seen : List Nat) : List XOp → Bool
  | [] => true
  | x :: r => (edgesOf os x.2.1).all (fun j => seen.contains j) && okTop os (x.2.1 :: seen) r

def okD (sf al : XOp → Bool) (P : Program) (n : Nat) (os : Array Oper) (xs : List XOp) : Bool :=
  xs.all (fun x => match os[x.2.1]? with | some o => okAOp P n os x.1 o | none => false) &&
  (List.range os.size).all (fun i => xs.any fun x => decide (x.2.1 = i)) && decide (xs.length = os.size) &&
  okTop os [] xs && okPairs sf al (allPreds os (xs.map (·.2.1)) []) xs

/-- A look into a map for a key that another operation of the region makes an entry for. -/
def twinOf (x y : XOp) : Bool := twinK x.1.k y.1.k
def isTwin (xs : List XOp) (x : XOp) : Bool := xs.any (twinOf x)
def sfM (xs : List XOp) (x : XOp) : Bool := isPure x.1.k || isTwin xs x
def okMgo (acc : List (Nat × Nat)) (all : List XOp) : Bool → List XOp → Bool
  | _, [] => true
  | s, x :: r => (!isTwin all x || (s && (notIn x.1.dst (reads x.1.k) && r.all fun y => notIn y.1.dst (reads x.1.k) && (isSoft y.1.k || !y.2.2 || twinOf x y || (predsOf acc y.2.1).testBit x.2.1)))) && okMgo acc all (s && isSoft x.1.k) r
def okM (os : Array Oper) (xs : List XOp) : Bool := okMgo (allPreds os (xs.map (·.2.1)) []) xs true xs
/-- A load that may come before or after changes. -/
def isLdU (x : XOp) : Bool := !isPure x.1.k && (isSoft x.1.k && !x.2.2)
/-- A row that may be laid before or after changes. -/
def alX (fr : List Nat) (x : XOp) : Bool := isAl x.1.k && (!x.2.2 && fr.contains (1000 + x.2.1))
def alN (_ : XOp) : Bool := false
/-- The operations fr come after all loads and all such rows. -/
def okFree (os : Array Oper) (xs : List XOp) (fr : List Nat) : Bool :=
  decide (os.size ≤ 1000) && fr.all fun j => decide (1000 ≤ j) || xs.all fun x => !(isLdU x || alX fr x) || (predsOf (allPreds os (xs.map (·.2.1)) []) j).testBit x.2.1

inductive Pre (os : Array Oper) : Nat → Nat → Prop
  | edge {i j} (h : i ∈ edgesOf os j) : Pre os i j
  | trans {i j k} : Pre os i k → Pre os k j → Pre os i j

theorem predsOf_sound {os : Array Oper} : ∀ {acc : List (Nat × Nat)}, (∀ p ∈ acc, ∀ i, p.2.testBit i = true → Pre os i p.1) → ∀ {i j : Nat}, (predsOf acc j).testBit i = true → Pre os i j
  | [], _, i, j, h => by simp [predsOf] at h
  | (k, l) :: r, hacc, i, j, h => by
    simp only [predsOf] at h
    split at h
    · rename_i e; subst e; exact hacc (k, l) (by simp) i h
    · exact predsOf_sound (fun p hp => hacc p (by simp [hp])) h

theorem orAll_sound {os : Array Oper} {acc : List (Nat × Nat)} (hacc : ∀ p ∈ acc, ∀ i, p.2.testBit i = true → Pre os i p.1) {k i : Nat} : ∀ {es : List Nat}, (∀ j ∈ es, j ∈ edgesOf os i) → (orAll acc es).testBit k = true → Pre os k i
  | [], _, h => by simp [orAll] at h
  | j :: r, he, h => by
    simp only [orAll, Nat.testBit_or, Bool.or_eq_true] at h
    rcases h with h | h | h
    · rw [Nat.one_shiftLeft, Nat.testBit_two_pow] at h
      simp only [decide_eq_true_eq] at h
      subst h
      exact .edge (he _ (by simp))
    · exact .trans (predsOf_sound hacc h) (.edge (he j (by simp)))
    · exact orAll_sound hacc (fun x hx => he x (by simp [hx])) h

theorem allPreds_sound {os : Array Oper} : ∀ {is : List Nat} {acc : List (Nat × Nat)}, (∀ p ∈ acc, ∀ i, p.2.testBit i = true → Pre os i p.1) → ∀ p ∈ allPreds os is acc, ∀ i, p.2.testBit i = true → Pre os i p.1
  | [], acc, h => h
  | i :: r, acc, h => by
    simp only [allPreds]
    refine allPreds_sound fun p hp k hk => ?_
    simp only [List.mem_cons] at hp
    rcases hp with rfl | hp
    · exact orAll_sound h (fun j hj => hj) hk
    · exact h p hp k hk

structure DS (sf al : XOp → Bool) (P : Program) (n : Nat) (os : Array Oper) (xs : List XOp) : Prop where
  mat : ∀ (p : Nat) (x : XOp), xs[p]? = some x → ∃ o, os[x.2.1]? = some o ∧ okAOp P n os x.1 o = true
  sur : ∀ (i : Nat) (o : Oper), os[i]? = some o → ∃ (p : Nat) (x : XOp), xs[p]? = some x ∧ x.2.1 = i
  len : xs.length = os.size
  top : ∀ (p : Nat) (x : XOp) (j : Nat), xs[p]? = some x → j ∈ edgesOf os x.2.1 → ∃ (q : Nat) (y : XOp), q < p ∧ xs[q]? = some y ∧ y.2.1 = j
  pair : ∀ (p q : Nat) (x y : XOp), p < q → xs[p]? = some x → xs[q]? = some y → x.2.1 ≠ y.2.1 ∧
    (Pre os x.2.1 y.2.1 ∨ Pre os y.2.1 x.2.1 ∨ (apart x.1 y.1 = true ∧ (mayX x = true → sf y = true) ∧ (mayX y = true → sf x = true ∨ al x = true)))

theorem okTop_spec {os : Array Oper} : ∀ {xs : List XOp} {seen : List Nat}, okTop os seen xs = true → ∀ (p : Nat) (x : XOp) (j : Nat), xs[p]? = some x → j ∈ edgesOf os x.2.1 →
    j ∈ seen ∨ ∃ (q : Nat) (y : XOp), q < p ∧ xs[q]? = some y ∧ y.2.1 = j
  | [], _, _, p, x, j, hx, _ => by simp at hx
  | y :: r, seen, h, p, x, j, hx, hj => by
    simp only [okTop, Bool.and_eq_true, List.all_eq_true] at h
    cases p with
    | zero =>
      simp at hx; subst hx
      exact .inl (by simpa using h.1 j hj)
    | succ p =>
      simp at hx
      rcases okTop_spec h.2 p x j hx hj with h1 | ⟨q, z, h1, h2, h3⟩
      · simp only [List.mem_cons] at h1
        rcases h1 with rfl | h1
        · exact .inr ⟨0, y, by omega, rfl, rfl⟩
        · exact .inl h1
      · exact .inr ⟨q + 1, z, by omega, by simpa using h2, h3⟩

theorem okPairs_spec {sf al : XOp → Bool} {os : Array Oper} {acc : List (Nat × Nat)} (hacc : ∀ p ∈ acc, ∀ i, p.2.testBit i = true → Pre os i p.1) : ∀ {xs : List XOp}, okPairs sf al acc xs = true →
    ∀ (p q : Nat) (x y : XOp), p < q → xs[p]? = some x → xs[q]? = some y → x.2.1 ≠ y.2.1 ∧
    (Pre os x.2.1 y.2.1 ∨ Pre os y.2.1 x.2.1 ∨ (apart x.1 y.1 = true ∧ (mayX x = true → sf y = true) ∧ (mayX y = true → sf x = true ∨ al x = true)))
  | [], _, p, q, x, y, _, hx, _ => by simp at hx
  | z :: r, h, p, q, x, y, hpq, hx, hy => by
    simp only [okPairs, Bool.and_eq_true, List.all_eq_true] at h
    cases p with
    | zero =>
      simp at hx; subst hx
      cases q with
      | zero => omega
      | succ q =>
        simp at hy
        have hk := h.1 y (List.mem_of_getElem? hy)
        simp only [pairOK, Bool.and_eq_true, Bool.or_eq_true, decide_eq_true_eq, Bool.not_eq_true'] at hk
        refine ⟨hk.1, ?_⟩
        rcases hk.2 with (h1 | h1) | h1
        · exact .inl (predsOf_sound hacc h1)
        · exact .inr (.inl (predsOf_sound hacc h1))
        · refine .inr (.inr ⟨h1.1.1, fun hz => ?_, fun hz => ?_⟩)
          · rcases h1.1.2 with h2 | h2
            · rw [hz] at h2; simp at h2
            · exact h2
          · rcases h1.2 with h2 | h2 | h2
            · rw [hz] at h2; simp at h2
            · exact .inl h2
            · exact .inr h2
    | succ p =>
      cases q with
      | zero => omega
      | succ q => exact okPairs_spec hacc h.2 p q x y (by omega) (by simpa using hx) (by simpa using hy)

theorem okD_spec {sf al : XOp → Bool} {P : Program} {n : Nat} {os : Array Oper} {xs : List XOp} (h : okD sf al P n os xs = true) : DS sf al P n os xs := by
  simp only [okD, Bool.and_eq_true, List.all_eq_true, decide_eq_true_eq] at h
  obtain ⟨⟨⟨⟨h1, h2⟩, h3⟩, h4⟩, h5⟩ := h
  refine ⟨fun p x hx => ?_, fun i o ho => ?_, h3, fun p x j hx hj => ?_, okPairs_spec (allPreds_sound (by simp)) h5⟩
  · have := h1 x (List.mem_of_getElem? hx)
    split at this
    · exact ⟨_, by assumption, this⟩
    · simp at this
  · have := h2 i (List.mem_range.2 (Array.getElem?_eq_some_iff.1 ho).1)
    simp only [List.any_eq_true, decide_eq_true_eq] at this
    obtain ⟨x, hx, rfl⟩ := this
    obtain ⟨p, hp⟩ := List.getElem?_of_mem hx
    exact ⟨p, x, hp, rfl⟩
  · rcases okTop_spec h4 p x j hx hj with h6 | h6
    · simp at h6
    · exact h6

theorem okMgo_spec {os : Array Oper} {acc : List (Nat × Nat)} (hacc : ∀ p ∈ acc, ∀ i, p.2.testBit i = true → Pre os i p.1) {all : List XOp} : ∀ {r : List XOp} {s : Bool}, okMgo acc all s r = true → ∀ (p : Nat) (x : XOp), r[p]? = some x → isTwin all x = true →
    s = true ∧ (∀ (q : Nat) (y : XOp), q < p → r[q]? = some y → isSoft y.1.k = true) ∧ (notIn x.1.dst (reads x.1.k) = true) ∧ ∀ (q : Nat) (y : XOp), p < q → r[q]? = some y → notIn y.1.dst (reads x.1.k) = true ∧ (isSoft y.1.k = true ∨ y.2.2 = false ∨ twinOf x y = true ∨ Pre os x.2.1 y.2.1)
  | [], s, h, p, x, hx, _ => by simp at hx
  | z :: r, s, h, p, x, hx, ht => by
    simp only [okMgo, Bool.and_eq_true, Bool.or_eq_true, Bool.not_eq_true', List.all_eq_true] at h
    cases p with
    | zero =>
      simp at hx; subst hx
      rcases h.1 with h1 | ⟨h1, h2, h3⟩
      · rw [ht] at h1; cases h1
      · refine ⟨h1, fun q y hq => by omega, h2, fun q y hq hy => ?_⟩
        cases q with
        | zero => omega
        | succ q =>
          obtain ⟨a, b⟩ := h3 y (List.mem_of_getElem? (by simpa using hy))
          refine ⟨a, ?_⟩
          rcases b with ((b | b) | b) | b
          · exact .inl b
          · exact .inr (.inl b)
          · exact .inr (.inr (.inl b))
          · exact .inr (.inr (.inr (predsOf_sound hacc b)))
    | succ p =>
      obtain ⟨a, b, c, d⟩ := okMgo_spec hacc h.2 p x (by simpa using hx) ht
      simp only [Bool.and_eq_true] at a
      refine ⟨a.1, fun q y hq hy => ?_, c, fun q y hq hy => ?_⟩
      · cases q with
        | zero => simp at hy; subst hy; exact a.2
        | succ q => exact b q y (by omega) (by simpa using hy)
      · cases q with
        | zero => omega
        | succ q => exact d q y (by omega) (by simpa using hy)
theorem okM_spec {os : Array Oper} {xs : List XOp} (h : okM os xs = true) {p : Nat} {x : XOp} (hx : xs[p]? = some x) (ht : isTwin xs x = true) :
    (∀ (q : Nat) (y : XOp), q < p → xs[q]? = some y → isSoft y.1.k = true) ∧ (notIn x.1.dst (reads x.1.k) = true) ∧ ∀ (q : Nat) (y : XOp), p < q → xs[q]? = some y → notIn y.1.dst (reads x.1.k) = true ∧ (isSoft y.1.k = true ∨ y.2.2 = false ∨ twinOf x y = true ∨ Pre os x.2.1 y.2.1) :=
  (okMgo_spec (allPreds_sound (by simp)) h p x hx ht).2
theorem okFree_spec {os : Array Oper} {xs : List XOp} {fr : List Nat} (h : okFree os xs fr = true) : os.size ≤ 1000 ∧ ∀ j ∈ fr, j < 1000 → ∀ x ∈ xs, (isLdU x = true ∨ alX fr x = true) → Pre os x.2.1 j := by
  simp only [okFree, Bool.and_eq_true, List.all_eq_true, Bool.or_eq_true, Bool.not_eq_true', decide_eq_true_eq, Bool.or_eq_false_iff] at h
  refine ⟨h.1, fun j hj hlt x hx hl => ?_⟩
  rcases h.2 j hj with h1 | h1
  · omega
  · rcases h1 x hx with h1 | h1
    · rcases hl with hl | hl
      · rw [hl] at h1; cases h1.1
      · rw [hl] at h1; cases h1.2
    · exact predsOf_sound (allPreds_sound (by simp)) h1

namespace DS
variable {sf al : XOp → Bool} {P : Program} {n : Nat} {os : Array Oper} {xs : List XOp} (D : DS sf al P n os xs)
include D

theorem uniq {p q : Nat} {x y : XOp} (hx : xs[p]? = some x) (hy : xs[q]? = some y) (h : x.2.1 = y.2.1) : p = q := by
  rcases Nat.lt_trichotomy p q with hpq | hpq | hpq
  · exact absurd h (D.pair p q x y hpq hx hy).1
  · exact hpq
  · exact absurd h.symm (D.pair q p y x hpq hy hx).1

theorem pre_at {i j : Nat} (h : Pre os i j) : ∀ {q : Nat} {y : XOp}, xs[q]? = some y → y.2.1 = j → ∃ (p : Nat) (x : XOp), p < q ∧ xs[p]? = some x ∧ x.2.1 = i := by
  induction h with
  | edge h => intro q y hy hj; subst hj; exact D.top q y _ hy h
  | trans _ _ ih1 ih2 =>
    intro q y hy hj
    obtain ⟨r, z, h1, h2, h3⟩ := ih2 hy hj
    obtain ⟨p, x, h4, h5, h6⟩ := ih1 h2 h3
    exact ⟨p, x, by omega, h5, h6⟩

theorem pre_lt {p q : Nat} {x y : XOp} (hx : xs[p]? = some x) (hy : xs[q]? = some y) (h : Pre os x.2.1 y.2.1) : p < q := by
  obtain ⟨r, z, h1, h2, h3⟩ := D.pre_at h hy rfl
  have := D.uniq h2 hx h3
  omega
end DS

/-- The states on the way. -/
theorem trace {cf : CF} : ∀ {xs : List XOp} {E : Env} {h : Heap} {E' : Env} {h' : Heap}, runOpsD cf (xs.map fun p => (p.1, p.2.2)) E h = some (E', h') →
    ∃ tr : Nat → Env × Heap, tr 0 = (E, h) ∧ tr xs.length = (E', h') ∧ ∀ (p : Nat) (x : XOp), xs[p]? = some x →
      runOp cf x.1 (tr p).1 (tr p).2 = some (tr (p + 1)) ∧ (x.2.2 = true ∨ (tr (p + 1)).2.take (tr p).2.length = (tr p).2)
  | [], E, h, E', h', hs => by
    simp [runOpsD] at hs
    exact ⟨fun _ => (E, h), rfl, by simp [hs], by simp⟩
  | x :: xs, E, h, E', h', hs => by
    simp only [List.map_cons, runOpsD] at hs
    split at hs
    · rename_i E1 h1 hx
      split at hs
      · rename_i hc
        obtain ⟨tr, t1, t2, t3⟩ := trace hs
        refine ⟨fun p => match p with | 0 => (E, h) | p + 1 => tr p, rfl, by simpa using t2, fun p y hy => ?_⟩
        cases p with
        | zero =>
          simp at hy; subst hy
          simp only [t1]
          refine ⟨hx, ?_⟩
          simpa using hc
        | succ p => exact t3 p y (by simpa using hy)
      · simp at hs
    · simp at hs


/-- The states on the way, where loads read what stays. -/
theorem traceS {cf : CF} {S A fr : List Nat} : ∀ {xs : List XOp} {E : Env} {h : Heap} {E' : Env} {h' : Heap}, runOpsS cf S A fr xs E h = some (E', h') → (∀ id ∈ alIds cf fr xs E h, id ∈ A) →
    ∃ tr : Nat → Env × Heap, tr 0 = (E, h) ∧ tr xs.length = (E', h') ∧ ∀ (p : Nat) (x : XOp), xs[p]? = some x →
      runOp cf x.1 (tr p).1 (tr p).2 = some (tr (p + 1)) ∧ (x.2.2 = true ∨ (tr (p + 1)).2.take (tr p).2.length = (tr p).2) ∧ (x.2.1 ∈ fr ∨ (∀ id ∈ S, (tr (p + 1)).2[id]? = (tr p).2[id]?) ∧ ∀ id ∈ A, id < (tr p).2.length → (tr (p + 1)).2[id]? = (tr p).2[id]?) ∧ (∀ id, ldX (tr p).1 x.2.2 x.1.k = some id → id ∈ S) ∧
      (1000 + x.2.1 ∈ fr → ∀ id, (tr p).2.length ≤ id → id < (tr (p + 1)).2.length → id ∈ A)
  | [], E, h, E', h', hs, _ => by
    simp [runOpsS] at hs
    exact ⟨fun _ => (E, h), rfl, by simp [hs], by simp⟩
  | x :: xs, E, h, E', h', hs, hA => by
    simp only [runOpsS] at hs
    split at hs
    · rename_i E1 h1 hx
      split at hs
      · rename_i hc
        simp only [Bool.and_eq_true, Bool.or_eq_true, beq_iff_eq, List.all_eq_true, List.contains_iff_mem, decide_eq_true_eq] at hc
        obtain ⟨c1, c2, c3⟩ := hc
        simp only [alIds, hx] at hA
        obtain ⟨tr, t1, t2, t3⟩ := traceS hs fun id hid => hA id (List.mem_append.2 (.inr hid))
        refine ⟨fun p => match p with | 0 => (E, h) | p + 1 => tr p, rfl, by simpa using t2, fun p y hy => ?_⟩
        cases p with
        | zero =>
          simp at hy; subst hy
          simp only [t1]
          refine ⟨hx, c1, c2.imp (fun h => h) (fun c => ⟨c.1, fun id hid hlt => (c.2 id hid).resolve_left (by omega)⟩), fun id hid => ?_, fun hf id h2 h3 => hA id (List.mem_append.2 (.inl ?_))⟩
          · rw [hid] at c3
            simpa [ldOk] using c3
          · rw [if_pos (List.contains_iff_mem.2 hf)]
            exact List.mem_range'_1.2 ⟨h2, by omega⟩
        | succ p => exact t3 p y (by simpa using hy)
      · simp at hs
    · simp at hs

end Go.Ab

