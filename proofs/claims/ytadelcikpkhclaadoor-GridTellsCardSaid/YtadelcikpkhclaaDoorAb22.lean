/- Slices of one's own, and append. -/
import Derived.Test.YtadelcikpkhclaaDoorAb21
namespace Go.Ab
set_option linter.unusedVariables false

/-- What was there is still there, as it was. -/
def Ext (h0 h : Heap) : Prop := ∃ t, h = h0 ++ t

theorem Ext.refl (h : Heap) : Ext h h := ⟨[], by simp⟩
theorem Ext.trans {a b c : Heap} (h1 : Ext a b) (h2 : Ext b c) : Ext a c := by
  obtain ⟨t, rfl⟩ := h1
  obtain ⟨u, rfl⟩ := h2
  exact ⟨t ++ u, by simp⟩
theorem Ext.app {a b : Heap} (h1 : Ext a b) (t : Heap) : Ext a (b ++ t) := h1.trans ⟨t, rfl⟩
theorem Ext.set {a b : Heap} (h1 : Ext a b) {id : Nat} (hi : a.length ≤ id) (x : Blk) : Ext a (b.set id x) := by
  obtain ⟨t, rfl⟩ := h1
  exact ⟨t.set (id - a.length) x, by rw [List.set_append_right _ _ hi]⟩
theorem Ext.get {a b : Heap} (h1 : Ext a b) (i : Nat) (x : Blk) (hx : a[i]? = some x) : b[i]? = some x := by
  obtain ⟨t, rfl⟩ := h1
  exact mono_app i x hx
theorem Ext.len {a b : Heap} (h1 : Ext a b) : a.length ≤ b.length := by
  obtain ⟨t, rfl⟩ := h1
  simp

/-- Room: a cap that is known or not. -/
def Room (n : Nat) (cs : List SV) : Option Nat → Prop
  | none => n ≤ cs.length
  | some c => cs.length = c ∧ n ≤ c

/-- A slice of one's own: made behind h0, from its block's begin on. -/
def Own (h0 h : Heap) (s : SV) (vs : List SV) : Prop :=
  (s = .nilS ∧ vs = []) ∨ ∃ id cap cs, s = .slc id 0 vs.length cap ∧ h0.length ≤ id ∧ h[id]? = some (.cells cs true 1) ∧ cs.take vs.length = vs ∧ Room vs.length cs cap

theorem Own.len {h0 h : Heap} {s : SV} {vs : List SV} (ho : Own h0 h s vs) : lenS false s = some (vs.length : Int) := by
  rcases ho with ⟨rfl, rfl⟩ | ⟨id, cap, cs, rfl, _⟩ <;> rfl

/-- It reads as it is. -/
theorem Own.sl {h0 h : Heap} {s : SV} {vs : List SV} (ho : Own h0 h s vs) : IsSl h s 1 vs.length vs := by
  rcases ho with ⟨rfl, rfl⟩ | ⟨id, cap, cs, rfl, h1, h2, h3, h4⟩
  · exact .inl ⟨rfl, rfl, rfl⟩
  · refine .inr ⟨id, 0, cap, _, rfl, h2, rfl, fun h => List.eq_nil_of_length_eq_zero h, fun _ => ⟨cs, true, rfl, ?_⟩⟩
    unfold cut
    simp only [ESz.one_n]
    have : vs.length ≤ cs.length := by
      have := congrArg List.length h3
      simp at this
      omega
    rw [if_pos (by omega)]
    simp [h3]

/-- append of one value that lies in a block of its own. -/
theorem push_step {h0 h : Heap} {s : SV} {vs : List SV} {x : SV} {bytes : Nat} (he : Ext h0 h) (ho : Own h0 h s vs) (hb : (vs.length + 1) * (bytes + 1) ≤ bigN) :
    ∃ s' h', ((srcCells (h ++ [Blk.cells [x] true 1]) 1 (.slc h.length 0 1 (some 1))).bind fun p => (appS (h ++ [Blk.cells [x] true 1]) 1 bytes s p.1 p.2).map fun r => ((some (.sc r.1) : Option AV), r.2)) = some (some (.sc s'), h') ∧ Own h0 h' s' (vs ++ [x]) ∧ Ext h0 h' ∧
      ∀ (j : Nat) (b : Blk), h[j]? = some b → (∀ o n c, s ≠ .slc j o n c) → h'[j]? = some b ∧ ∀ o n c, s' ≠ .slc j o n c := by
  have hl := he.len
  have fresh : ∀ (j : Nat) (b : Blk), h[j]? = some b → ∀ (o n : Nat) (c : Option Nat) (k : Nat), SV.slc (h ++ [Blk.cells [x] true 1]).length 0 k none ≠ .slc j o n c := by
    intro j b hj o n c k he
    have h1 := (List.getElem?_eq_some_iff.1 hj).1
    injection he with h2
    rw [List.length_append] at h2
    omega
  have hsrc : srcCells (h ++ [Blk.cells [x] true 1]) 1 (.slc h.length 0 1 (some 1)) = some (1, [x]) := by
    simp only [srcCells]
    rw [if_neg (by omega), Nat.one_mul, rd_last rfl]; rfl
  rw [hsrc]
  simp only [Option.bind_some]
  rcases ho with ⟨rfl, rfl⟩ | ⟨id, cap, cs, rfl, h1, h2, h3, h4⟩
  · refine ⟨.slc (h ++ [Blk.cells [x] true 1]).length 0 1 none, (h ++ [Blk.cells [x] true 1]) ++ [Blk.cells [x] true 1], ?_, ?_, (he.app _).app _, ?_⟩
    · simp only [appS]
      rw [if_neg (by omega), if_pos (by simpa using hb)]; rfl
    · exact .inr ⟨_, none, [x], rfl, by simp; omega, by rw [List.getElem?_append_right (Nat.le_refl _)]; simp, rfl, Nat.le_refl _⟩
    · exact fun j b hj _ => ⟨mono_app j b (mono_app j b hj), fun o n c => fresh j b hj o n c _⟩
  · have hid : id < h.length := (List.getElem?_eq_some_iff.1 h2).1
    have hg : (h ++ [Blk.cells [x] true 1])[id]? = some (Blk.cells cs true 1) := mono_app id _ h2
    have hlen : vs.length ≤ cs.length := by
      have := congrArg List.length h3
      simp at this
      omega
    have hcut : cut cs 0 (vs.length * 1) = some vs := by
      unfold cut
      rw [if_pos (by omega)]
      simp [h3]
    have base : appS (h ++ [Blk.cells [x] true 1]) 1 bytes (.slc id 0 vs.length cap) 1 [x] = match cap with
        | some c => if c < vs.length + 1 then some (.slc (h ++ [Blk.cells [x] true 1]).length 0 (vs.length + 1) none, (h ++ [Blk.cells [x] true 1]) ++ [Blk.cells (vs ++ [x]) true 1])
          else (writeN (h ++ [Blk.cells [x] true 1]) id (0 + vs.length * 1) [x]).map fun h' => (.slc id 0 (vs.length + 1) (some c), h')
        | none => some (.slc (h ++ [Blk.cells [x] true 1]).length 0 (vs.length + 1) none, (h ++ [Blk.cells [x] true 1]).set id (Blk.dead 1) ++ [Blk.cells (vs ++ [x]) true 1]) := by
      simp only [appS]
      rw [if_neg (by omega), if_pos hb, hg]
      simp only [if_true, ESz.one_n, hcut]
      cases cap <;> rfl
    rw [base]
    cases cap with
    | none =>
      refine ⟨_, _, rfl, ?_, ((he.app _).set h1 _).app _, fun j b hj hs => ?_⟩
      · refine .inr ⟨(h ++ [Blk.cells [x] true 1]).length, none, vs ++ [x], by simp, by simp; omega, ?_, List.take_length, by simp [Room]⟩
        rw [List.getElem?_append_right (by simp)]; simp
      · have hne : id ≠ j := fun e => by subst e; exact hs _ _ _ rfl
        refine ⟨mono_app j b ?_, fun o n c => fresh j b hj o n c _⟩
        rw [List.getElem?_set_ne hne]
        exact mono_app j b hj
    | some c =>
      obtain ⟨h5, h6⟩ := h4
      simp only
      split
      · refine ⟨_, _, rfl, ?_, (he.app _).app _, fun j b hj _ => ⟨mono_app j b (mono_app j b hj), fun o n c => fresh j b hj o n c _⟩⟩
        refine .inr ⟨(h ++ [Blk.cells [x] true 1]).length, none, vs ++ [x], by simp, by simp; omega, ?_, List.take_length, by simp [Room]⟩
        rw [List.getElem?_append_right (Nat.le_refl _)]; simp
      · rename_i hc
        have hw : writeN (h ++ [Blk.cells [x] true 1]) id (0 + vs.length * 1) [x] = some ((h ++ [Blk.cells [x] true 1]).set id (Blk.cells (splice cs (0 + vs.length * 1) [x]) true 1)) := by
          unfold writeN
          rw [hg]
          simp only [List.length_singleton]
          rw [if_pos (by omega)]
        rw [hw]
        have hsp : splice cs (0 + vs.length * 1) [x] = vs ++ [x] ++ cs.drop (vs.length + 1) := by
          unfold splice
          simp [h3]
        refine ⟨_, _, rfl, ?_, (he.app _).set h1 _, fun j b hj hs => ?_⟩
        · refine .inr ⟨id, some c, splice cs (0 + vs.length * 1) [x], by simp, h1, ?_, ?_, ?_⟩
          · rw [List.getElem?_set_self (by simp; omega)]
          · rw [hsp]; exact List.take_left
          · refine ⟨?_, by simp; omega⟩
            rw [hsp]; simp; omega
        · have hne : id ≠ j := fun e => by subst e; exact hs _ _ _ rfl
          refine ⟨?_, fun o n c e => hne (by injection e)⟩
          rw [List.getElem?_set_ne hne]
          exact mono_app j b hj

section
variable {FT : FuncId → Option AFun} {HK : FuncId → Option Hook} {E : Env} {h : Heap} {K : Env → Heap → Prop} {r : List AOp}

/-- append(s, x), as the compiler lays it: a block for x, then append. -/
theorem op_push {h0 : Heap} {s x z : SV} {vs : List SV} {a b bytes : Nat} {ao bo : AO} {zz : List SV} (hx : ev E bo = some (.sc x)) (hs : evS (bindE (some a) (some (.sc (.slc h.length 0 1 (some 1)))) E) ao = some s) (he : Ext h0 h) (ho : Own h0 h s vs) (hb : (vs.length + 1) * (bytes + 1) ≤ bigN)
    (hw : ∀ s' h', Own h0 h' s' (vs ++ [x]) → Ext h0 h' → (∀ (j : Nat) (b : Blk), h[j]? = some b → (∀ o n c, s ≠ .slc j o n c) → h'[j]? = some b ∧ ∀ o n c, s' ≠ .slc j o n c) →
      wOps FT HK r (bindE (some b) (some (.sc s')) (bindE (some a) (some (.sc (.slc h.length 0 1 (some 1)))) E)) h' K) :
    wOps FT HK (⟨some a, .bsl 1 [z] 1 [(0, bo)], none⟩ :: ⟨some b, .app 1 bytes zz ao (.t a), none⟩ :: r) E h K := by
  refine op_ok (v := some (.sc (.slc h.length 0 1 (some 1)))) (h' := h ++ [.cells [x] true 1]) rfl rfl ?_ ?_
  · simp only [step1, ESz.one_n]
    rw [if_pos (by omega)]
    simp [evParts, hx, AV.cells, fillA, rep, splice]
  · obtain ⟨s', h', h1, h2, h3, h4⟩ := push_step (bytes := bytes) (x := x) he ho hb
    refine op_ok (v := some (.sc s')) (h' := h') rfl rfl ?_ (hw s' h' h2 h3 h4)
    simp only [step1, hs, Option.bind_some]
    have h5 : evS (bindE (some a) (some (.sc (.slc h.length 0 1 (some 1)))) E) (.t a) = some (.slc h.length 0 1 (some 1)) := by
      simp [evS, ev, bindE, Env.get]
    rw [h5]
    exact h1
end
end Go.Ab
