/- Regions whose order is the text's. -/
import Derived.Test.YtadelcikpkhclaaDoorAb10
namespace Go.Ab
set_option linter.unusedVariables false
variable {P : Program} {β : Bt} {E : Env} {h : Heap} {w : World} {a : Act}

def okG (os : Array Oper) : Option (Nat × Bool) → Option (Nat × Bool) → Bool
  | none, none => true
  | some (t, b), some (j, want) => decide (b = want) && decide ((os[j]?).bind (·.dst) = some t)
  | _, _ => false

def okAOp (P : Program) (n : Nat) (os : Array Oper) (x : AOp) (o : Oper) : Bool :=
  okOp P x.k o.op && decide (x.dst = o.dst) && (match x.dst with | some t => decide (t < n) | none => true) && okG os x.guard o.guard

def okOps (P : Program) (n : Nat) (os : Array Oper) : List AOp → List Oper → Bool
  | [], [] => true
  | x :: xs, o :: r => okAOp P n os x o && okOps P n os xs r
  | _, _ => false

theorem wants_rel {os : Array Oper} {x : AOp} {o : Oper} {b : Bool} (hok : okG os x.guard o.guard = true) (hE : ERel β E a.tmps) (hw : wants E x.guard = some b) :
    Region.wanted o (yielded os a.tmps) = b := by
  unfold okG at hok
  split at hok
  · rename_i h1 h2
    simp [h1, wants] at hw
    subst hw
    simp [Region.wanted, h2]
  · rename_i t b' j want h1 h2
    simp only [Bool.and_eq_true, decide_eq_true_eq] at hok
    obtain ⟨rfl, hd⟩ := hok
    simp only [h1, wants] at hw
    split at hw
    · rename_i c hc
      simp at hw; subst hw
      obtain ⟨cv, k1, k2⟩ := hE _ _ hc
      cases k2 with
      | sc k2 =>
        cases k2
        have hy : yielded os a.tmps j = some c := by simp [yielded, hd, k1]
        simp [Region.wanted, h2, hy]
    · simp at hw
  · simp at hok

theorem put_size (a : Act) (d : Option Nat) (c : Value) : (a.put d c).tmps.size = a.tmps.size := by
  cases d <;> simp [Act.put]
theorem put_defers (a : Act) (d : Option Nat) (c : Value) : (a.put d c).defers = a.defers := by
  cases d <;> simp [Act.put]

/-- One operation with its guard. -/
theorem runOp_sound {cf : CF} (CO : CallOK P cf) {os : Array Oper} {n : Nat} {x : AOp} {o : Oper} {E' : Env} {h' : Heap} (hok : okAOp P n os x o = true) (hn : a.tmps.size = n)
    (hE : ERel β E a.tmps) (R : Rep β h w) (hf : fresh β h h') (hs : runOp cf x E h = some (E', h')) {K : Act → World → Prop} {Q : Exit → Act → World → Prop}
    (hK : ∀ β' w' a', Stp β h w β' h' w' → Rep β' h' w' → ERel β' E' a'.tmps → a'.tmps.size = n → a'.defers = a.defers → K a' w') :
    if Region.wanted o (yielded os a.tmps) then o.wp P a w K Q else K (a.put o.dst undef) w := by
  simp only [okAOp, Bool.and_eq_true, decide_eq_true_eq] at hok
  obtain ⟨⟨⟨k1, k2⟩, k3⟩, k4⟩ := hok
  have hd : ∀ t, x.dst = some t → t < a.tmps.size := by
    intro t ht
    rw [ht] at k3
    simp at k3; omega
  unfold runOp at hs
  split at hs
  · rename_i hw
    rw [wants_rel k4 hE hw, if_pos rfl]
    simp only [Option.map_eq_some_iff, Prod.mk.injEq] at hs
    obtain ⟨⟨v, h1⟩, hr, rfl, rfl⟩ := hs
    refine op_sound CO k1 hE R hf hr fun β' w' c s1 s2 s3 => ?_
    refine hK β' w' _ s1 s2 ?_ (by rw [put_size]; exact hn) (put_defers _ _ _)
    rw [← k2]
    exact (hE.mono s1.ext).bind x.dst v c hd s3 a.defers
  · rename_i hw
    rw [wants_rel k4 hE hw]
    simp at hs
    obtain ⟨rfl, rfl⟩ := hs
    simp only [Bool.false_eq_true, if_false]
    refine hK β w _ (Stp.refl _ _ _) R ?_ (by rw [put_size]; exact hn) (put_defers _ _ _)
    rw [← k2]
    exact hE.bind x.dst none undef hd (fun u hu => by simp at hu) a.defers
  · simp at hs

theorem runOp_len {cf : CF} (CO : CallOK P cf) {x : AOp} {E' : Env} {h' : Heap} (hs : runOp cf x E h = some (E', h')) : h.length ≤ h'.length := by
  unfold runOp at hs
  split at hs
  · simp only [Option.map_eq_some_iff, Prod.mk.injEq] at hs
    obtain ⟨⟨v, h1⟩, hr, rfl, rfl⟩ := hs
    exact opRun_len CO hr
  · simp at hs; rw [hs.2]; exact Nat.le_refl _
  · simp at hs

theorem runOps_len {cf : CF} (CO : CallOK P cf) : ∀ {xs : List AOp} {E : Env} {h : Heap} {E' : Env} {h' : Heap}, runOps cf xs E h = some (E', h') → h.length ≤ h'.length
  | [], E, h, E', h', hs => by simp [runOps] at hs; rw [hs.2]; exact Nat.le_refl _
  | x :: xs, E, h, E', h', hs => by
    simp only [runOps] at hs
    split at hs
    · rename_i h1
      exact Nat.le_trans (runOp_len CO h1) (runOps_len CO hs)
    · simp at hs

theorem fresh.first {β : Bt} {h h1 h' : Heap} (hf : fresh β h h') (hl : h1.length ≤ h'.length) : fresh β h h1 := fun id a b => hf id a (by omega)
theorem fresh.rest {β β1 : Bt} {h h1 h' : Heap} {w w1 : World} (hf : fresh β h h') (s : Stp β h w β1 h1 w1) : fresh β1 h1 h' := fun id ha hb => by
  cases hc : β1 id with
  | none => rfl
  | some L =>
    rcases s.dom id L hc with h2 | h2
    · rw [hf id (Nat.le_trans s.len ha) hb] at h2; simp at h2
    · omega

theorem ops_sound {cf : CF} (CO : CallOK P cf) {os : Array Oper} {n : Nat} {Q : Exit → Act → World → Prop} : ∀ {xs : List AOp} {r : List Oper} {β : Bt} {E : Env} {h : Heap} {w : World} {a : Act} {E' : Env} {h' : Heap},
    okOps P n os xs r = true → a.tmps.size = n → ERel β E a.tmps → Rep β h w → fresh β h h' → runOps cf xs E h = some (E', h') →
    (∀ β' w' a', Stp β h w β' h' w' → Rep β' h' w' → ERel β' E' a'.tmps → a'.tmps.size = n → a'.defers = a.defers → Q .normal a' w') → wpList P os Q r a w
  | [], [], β, E, h, w, a, E', h', _, hn, hE, R, hf, hs, hK => by
    simp [runOps] at hs
    obtain ⟨rfl, rfl⟩ := hs
    exact wpList_nil (hK β w a (Stp.refl _ _ _) R hE hn rfl)
  | x :: xs, o :: r, β, E, h, w, a, E', h', hok, hn, hE, R, hf, hs, hK => by
    simp only [okOps, Bool.and_eq_true] at hok
    simp only [runOps] at hs
    split at hs
    · rename_i E1 h1 hx
      refine wpList_step fun K hK' => runOp_sound CO hok.1 hn hE R (hf.first (runOps_len CO hs)) hx fun β1 w1 a1 s1 s2 s3 s4 s5 => ?_
      refine hK' _ _ (ops_sound CO hok.2 s4 s3 s2 (hf.rest s1) hs fun β2 w2 a2 t1 t2 t3 t4 t5 => hK β2 w2 a2 (s1.trans t1) t2 t3 t4 (t5.trans s5))
    · simp at hs
  | [], _ :: _, _, _, _, _, _, _, _, hok, _, _, _, _, _, _ => by simp [okOps] at hok
  | _ :: _, [], _, _, _, _, _, _, _, hok, _, _, _, _, _, _ => by simp [okOps] at hok

end Go.Ab
