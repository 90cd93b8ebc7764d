import Derived.Test.YtleoalcbgpjieaaDoorAb29
/- Queues: a slice of one's own that no longer begins where its block begins. -/
namespace Go.Ab
set_option linter.unusedVariables false

def RoomQ (off n : Nat) (cs : List SV) : Option Nat → Prop
  | none => off + n ≤ cs.length
  | some c => cs.length = off + c ∧ n ≤ c
/-- A slice of one's own, anywhere in its block. -/
def OwnQ (h0 h : Heap) (s : SV) (vs : List SV) : Prop :=
  (s = .nilS ∧ vs = []) ∨ ∃ id off cap cs, s = .slc id off vs.length cap ∧ h0.length ≤ id ∧ h[id]? = some (.cells cs true 1) ∧ (cs.drop off).take vs.length = vs ∧ RoomQ off vs.length cs cap
theorem Own.q {h0 h : Heap} {s : SV} {vs : List SV} (ho : Own h0 h s vs) : OwnQ h0 h s vs := by
  rcases ho with h | ⟨id, cap, cs, e1, e2, e3, e4, e5⟩
  · exact .inl h
  · exact .inr ⟨id, 0, cap, cs, e1, e2, e3, by simpa using e4, by cases cap <;> simpa [RoomQ, Room] using e5⟩
theorem OwnQ.len {h0 h : Heap} {s : SV} {vs : List SV} (ho : OwnQ h0 h s vs) : lenS false s = some (vs.length : Int) := by
  rcases ho with ⟨rfl, rfl⟩ | ⟨id, off, cap, cs, rfl, _⟩ <;> rfl
theorem OwnQ.fits {off n : Nat} {cs : List SV} {cap : Option Nat} (h : RoomQ off n cs cap) : off + n ≤ cs.length := by
  cases cap with
  | none => exact h
  | some c => have := h.1; have := h.2; omega
/-- The first one is read. -/
theorem OwnQ.rd {h0 h : Heap} {s v : SV} {vs : List SV} {i : Nat} (ho : OwnQ h0 h s vs) (hv : vs[i]? = some v) : ∃ id off cap, s = .slc id off vs.length cap ∧ readN h id (off + i * 1) 1 = some [v] := by
  rcases ho with ⟨rfl, rfl⟩ | ⟨id, off, cap, cs, rfl, h1, h2, h3, h4⟩
  · simp at hv
  · refine ⟨id, off, cap, rfl, ?_⟩
    have hi := (List.getElem?_eq_some_iff.1 hv).1
    have hl := OwnQ.fits h4
    have hc : cs[off + i]? = some v := by
      rw [← h3, List.getElem?_take_of_lt hi, List.getElem?_drop] at hv
      exact hv
    simp only [readN, h2]
    unfold cut
    rw [if_pos (by omega)]
    obtain ⟨h9, h10⟩ := List.getElem?_eq_some_iff.1 hc
    simp only [Nat.mul_one]
    rw [List.drop_eq_getElem_cons h9, h10]; rfl
/-- What is left behind the first k. -/
theorem OwnQ.from {h0 h : Heap} {s : SV} {vs : List SV} {k : Nat} (ho : OwnQ h0 h s vs) (hk : k ≤ vs.length) : ∃ s', slice1 k vs.length s = some s' ∧ OwnQ h0 h s' (vs.drop k) ∧ ∀ j, NotAt s j → NotAt s' j := by
  rcases ho with ⟨rfl, rfl⟩ | ⟨id, off, cap, cs, rfl, h1, h2, h3, h4⟩
  · obtain rfl : k = 0 := by simpa using hk
    exact ⟨.nilS, rfl, .inl ⟨rfl, rfl⟩, fun j h => h⟩
  · refine ⟨.slc id (off + k) (vs.length - k) (cap.map (· - k)), by simp only [slice1]; rw [if_pos ⟨hk, Nat.le_refl _⟩], .inr ⟨id, off + k, cap.map (· - k), cs, by simp, h1, h2, ?_, ?_⟩, fun j hj o n c e => hj _ _ _ (by cases e; rfl)⟩
    · rw [List.length_drop, ← List.drop_drop]
      conv => rhs; rw [← h3]
      rw [List.drop_take]
    · have := OwnQ.fits h4
      rw [List.length_drop]
      cases cap with
      | none => simp only [Option.map_none, RoomQ] at h4 ⊢; omega
      | some c => simp only [Option.map_some, RoomQ] at h4 ⊢; omega
/-- append of cells. -/
theorem ownQ_app {h0 h : Heap} {s : SV} {vs ws : List SV} {bytes : Nat} (he : Ext h0 h) (ho : OwnQ h0 h s vs) (hb : (vs.length + ws.length) * (bytes + 1) ≤ bigN) :
    ∃ s' h', appS h 1 bytes s ws.length ws = some (s', h') ∧ OwnQ h0 h' s' (vs ++ ws) ∧ Ext h0 h' ∧ h.length ≤ h'.length ∧ Fram h h' s s' := by
  have hl := he.len
  rcases ho with ⟨rfl, rfl⟩ | ⟨id, off, cap, cs, rfl, h1, h2, h3, h4⟩
  · obtain ⟨s', h', e1, e2, e3⟩ := own_app (ws := ws) (bytes := bytes) he (.inl ⟨rfl, rfl⟩) hb
    exact ⟨s', h', e1, e2.q, e3⟩
  · have hid : id < h.length := (List.getElem?_eq_some_iff.1 h2).1
    have hlen := OwnQ.fits h4
    by_cases hm : ws.length = 0
    · have : ws = [] := List.eq_nil_of_length_eq_zero hm
      subst this
      refine ⟨.slc id off vs.length cap, h, rfl, .inr ⟨id, off, cap, cs, by simp, h1, h2, by simpa using h3, by simpa using h4⟩, he, Nat.le_refl _, fun j b hj hn => ⟨hj, hn⟩⟩
    have hcut : cut cs off (vs.length * 1) = some vs := by
      unfold cut
      rw [if_pos (by omega), Nat.mul_one, h3]
    have fresh : ∀ (j : Nat) (b : Blk), h[j]? = some b → ∀ k, NotAt (SV.slc h.length 0 k none) j := by
      intro j b hj k o n c hc
      have := (List.getElem?_eq_some_iff.1 hj).1
      cases hc; omega
    have nw : ∀ B : Heap, B.length = h.length → OwnQ h0 (B ++ [Blk.cells (vs ++ ws) true 1]) (.slc h.length 0 (vs.length + ws.length) none) (vs ++ ws) := fun B hB =>
      .inr ⟨h.length, 0, none, vs ++ ws, by simp, hl, by rw [← hB, List.getElem?_append_right (Nat.le_refl _)]; simp, by rw [List.drop_zero]; exact List.take_length, by simp [RoomQ]⟩
    cases cap with
    | none =>
      refine ⟨.slc h.length 0 (vs.length + ws.length) none, h.set id (.dead 1) ++ [.cells (vs ++ ws) true 1], ?_, nw _ (by simp), (he.set h1 _).app _, by simp, ?_⟩
      · simp only [appS]
        rw [if_neg hm, if_pos hb, h2]
        simp only [if_true, ESz.one_n, hcut, ESz.one_ty]
        rw [if_pos (by simp)]
      · intro j b hj hn
        have hne : id ≠ j := fun e => by subst e; exact hn _ _ _ rfl
        refine ⟨mono_app j b ?_, fresh j b hj _⟩
        rw [List.getElem?_set_ne hne]; exact hj
    | some c =>
      obtain ⟨h5, h6⟩ := h4
      by_cases hc : c < vs.length + ws.length
      · refine ⟨.slc h.length 0 (vs.length + ws.length) none, h ++ [.cells (vs ++ ws) true 1], ?_, nw _ rfl, he.app _, by simp, ?_⟩
        · simp only [appS]
          rw [if_neg hm, if_pos hb, h2]
          simp only [if_true, ESz.one_n, hcut]
          rw [if_pos hc]
        · exact fun j b hj hn => ⟨mono_app j b hj, fresh j b hj _⟩
      · have hsp : (splice cs (off + vs.length * 1) ws).drop off = vs ++ ws ++ cs.drop (off + vs.length + ws.length) := by
          unfold splice
          rw [Nat.mul_one, List.append_assoc, List.drop_append_of_le_length (by simp; omega), List.drop_take, Nat.add_sub_cancel_left, h3, List.append_assoc]
        have hspl : (splice cs (off + vs.length * 1) ws).length = cs.length := by unfold splice; simp; omega
        refine ⟨.slc id off (vs.length + ws.length) (some c), h.set id (.cells (splice cs (off + vs.length * 1) ws) true 1), ?_, ?_, he.set h1 _, by simp, ?_⟩
        · simp only [appS]
          rw [if_neg hm, if_pos hb, h2]
          simp only [if_true, ESz.one_n, hcut]
          rw [if_neg hc]
          simp only [writeN, h2]
          rw [if_pos (by omega)]; rfl
        · refine .inr ⟨id, off, some c, splice cs (off + vs.length * 1) ws, by simp, h1, ?_, ?_, ?_, by simp; omega⟩
          · rw [List.getElem?_set_self hid]
          · rw [hsp]; exact List.take_left
          · rw [hspl]; exact h5
        · intro j b hj hn
          have hne : id ≠ j := fun e => by subst e; exact hn _ _ _ rfl
          refine ⟨?_, fun o n c' e => hn _ _ _ (by cases e; rfl)⟩
          rw [List.getElem?_set_ne hne]; exact hj
/-- It lies elsewhere than what is kept. -/
theorem OwnQ.away {h0 h h' : Heap} {s s' t : SV} {ws : List SV} (ht : OwnQ h0 h t ws) (hf : Fram h h' s s') (ha : Apart s t) : OwnQ h0 h' t ws := by
  rcases ht with hs | ⟨id, off, cap, cs, rfl, h1, h2, h3⟩
  · exact .inl hs
  · exact .inr ⟨id, off, cap, cs, rfl, h1, (hf id _ h2 ((ha id).resolve_right fun hn => hn _ _ _ rfl)).1, h3⟩
theorem OwnQ.ext {h0 h h' : Heap} {s : SV} {vs : List SV} (hs : OwnQ h0 h s vs) (he : Ext h h') : OwnQ h0 h' s vs := by
  rcases hs with hs | ⟨id, off, cap, cs, rfl, h1, h2, h3⟩
  · exact .inl hs
  · exact .inr ⟨id, off, cap, cs, rfl, h1, he.get _ _ h2, h3⟩
section
variable {FT : FuncId → Option AFun} {HK : FuncId → Option Hook} {E : Env} {h : Heap} {K : Env → Heap → Prop} {r : List AOp}
theorem k_pushQ {h0 : Heap} {s x z : SV} {vs : List SV} {a b bytes : Nat} {ao bo : AO} {zz : List SV} (he : Ext h0 h) (ho : OwnQ h0 h s vs) (hx : ev E bo = some (.sc x)) (hs : evS (bindE (some a) (some (.sc (.slc h.length 0 1 (some 1)))) E) ao = some s) (hb : (vs.length + 1) * (bytes + 1) ≤ bigN)
    (hw : ∀ s' h', OwnQ h0 h' s' (vs ++ [x]) → Ext h0 h' → Fram h h' s s' → wOps FT HK r (bindE (some b) (some (.sc s')) (bindE (some a) (some (.sc (.slc h.length 0 1 (some 1)))) E)) h' K) :
    wOps FT HK (⟨some a, .bsl 1 [z] 1 [(0, bo)], none⟩ :: ⟨some b, .app 1 bytes zz ao (.t a), none⟩ :: r) E h K := by
  refine op_ok (v := some (.sc (.slc h.length 0 1 (some 1)))) (h' := h ++ [.cells [x] true 1]) rfl rfl ?_ ?_
  · simp only [step1, ESz.one_n]
    rw [if_pos (by omega)]
    simp [evParts, hx, AV.cells, fillA, rep, splice]
  · obtain ⟨s', h', h1, h2, h3, h4, h5⟩ := ownQ_app (bytes := bytes) (ws := [x]) (he.app [.cells [x] true 1]) (ho.ext ⟨_, rfl⟩) hb
    refine op_ok (v := some (.sc s')) (h' := h') rfl rfl ?_ (hw s' h' h2 h3 fun j b hj hn => h5 j b (mono_app j b hj) hn)
    simp only [step1, hs, Option.bind_some]
    have h6 : evS (bindE (some a) (some (.sc (.slc h.length 0 1 (some 1)))) E) (.t a) = some (.slc h.length 0 1 (some 1)) := by
      simp [evS, ev, bindE, Env.get]
    rw [h6]
    have hsrc : srcCells (h ++ [Blk.cells [x] true 1]) 1 (.slc h.length 0 1 (some 1)) = some (1, [x]) := by
      simp only [srcCells]
      rw [if_neg (by omega), Nat.one_mul, rd_last rfl]; rfl
    simp only [Option.bind_some, ESz.one_n, hsrc]
    rw [show ([x] : List SV).length = 1 from rfl] at h1
    rw [h1]; rfl
end
end Go.Ab
namespace Go.Ab
section
variable {FT : FuncId → Option AFun} {HK : FuncId → Option Hook}
/-- A round: it goes on with a smaller number, or the loop is left. -/
def wRoundI (I : Nat → Env → Heap → Prop) (k : Nat) (R : Ex → Env → Heap → Prop) : Ex → Env → Heap → Prop
  | .nm, E, h => ∃ j, j < k ∧ I j E h
  | e, E, h => R e E h
theorem Lp.ofI {ks : List Nat} {c : AC} (I : Nat → Env → Heap → Prop) (R : Ex → Env → Heap → Prop) (round : ∀ k E h, I k E h → wA FT HK c (E.keep ks) h (wRoundI I k R)) : ∀ k E h, I k E h → ∃ ex E' h', Lp FT HK ks c E h (ex, E', h') ∧ R ex E' h' := by
  intro n
  induction n using Nat.strongRecOn with
  | _ n ih =>
    intro E h hI
    obtain ⟨ex, E', h', h1, h2⟩ := wA_run (round n E h hI)
    cases ex with
    | nm =>
      obtain ⟨j, h3, h4⟩ := h2
      obtain ⟨ex2, E2, h5, h6, h7⟩ := ih j h3 E' h' h4
      exact ⟨ex2, E2, h5, Lp.step h1 h6, h7⟩
    | ex i => exact ⟨_, _, _, Lp.stop (by simp) h1, h2⟩
    | rt => exact ⟨_, _, _, Lp.stop (by simp) h1, h2⟩
theorem w_loopI {a : AC} {E : Env} {h : Heap} {Q : Ex → Env → Heap → Prop} {ks : List Nat} (I : Nat → Env → Heap → Prop) (k : Nat) (R : Ex → Env → Heap → Prop) (h0 : I k E h)
    (round : ∀ k E h, I k E h → wA FT HK a (E.keep ks) h (wRoundI I k R)) (hQ : ∀ ex E' h', R ex E' h' → Q ex E' h') : wA FT HK (.loop ks a) E h Q :=
  wLoop_of (Lp.ofI I R round k E h h0) hQ
theorem w_roundIN {I : Nat → Env → Heap → Prop} {k j : Nat} {R : Ex → Env → Heap → Prop} {E : Env} {h : Heap} (h2 : j < k) (h1 : I j E h) : wRoundI I k R .nm E h := ⟨j, h2, h1⟩
theorem w_roundIX {I : Nat → Env → Heap → Prop} {k i : Nat} {R : Ex → Env → Heap → Prop} {E : Env} {h : Heap} (h1 : R (.ex i) E h) : wRoundI I k R (.ex i) E h := h1
theorem w_roundIR {I : Nat → Env → Heap → Prop} {k : Nat} {R : Ex → Env → Heap → Prop} {E : Env} {h : Heap} (h1 : R .rt E h) : wRoundI I k R .rt E h := h1
end
end Go.Ab
namespace Go.Ab
section
variable {FT : FuncId → Option AFun} {HK : FuncId → Option Hook} {E : Env} {h : Heap} {K : Env → Heap → Prop} {d : Option Nat} {r : List AOp} {x y : AO}
/-- Two bools, each known. -/
theorem k_beq {neg a b : Bool} (hx : evS E x = some (.bool a)) (hy : evS E y = some (.bool b)) (hw : wOps FT HK r (bindE d (some (.sc (.bool (if neg then !(a == b) else a == b)))) E) h K) : wOps FT HK (⟨d, .beq neg x y, none⟩ :: r) E h K :=
  op_ok rfl rfl (by simp only [step1, hx, hy]) hw
end
end Go.Ab

