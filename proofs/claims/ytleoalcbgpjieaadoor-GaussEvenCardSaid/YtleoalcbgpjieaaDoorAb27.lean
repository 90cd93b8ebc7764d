import Derived.Test.YtleoalcbgpjieaaDoorAb25
/- Slices of one's own: append of any slice; parts of slices; regions that draw their order. -/
namespace Go.Ab
set_option linter.unusedVariables false

/-- s is not a slice of block j. -/
def NotAt (s : SV) (j : Nat) : Prop := ∀ o n c, s ≠ .slc j o n c
/-- What is not s's block stays as it is, and is not that of s' either. -/
def Fram (h h' : Heap) (s s' : SV) : Prop := ∀ (j : Nat) (b : Blk), h[j]? = some b → NotAt s j → h'[j]? = some b ∧ NotAt s' j

theorem IsSl.src {h : Heap} {t : SV} {n : Nat} {ws : List SV} (ht : IsSl h t 1 n ws) (hn : ws.length = n) : srcCells h 1 t = some (n, ws) := by
  rcases ht with ⟨rfl, rfl, rfl⟩ | ⟨id, off, cap, b, rfl, h1, h2, h3, h4⟩
  · rfl
  · simp only [srcCells]
    by_cases h0 : n = 0
    · subst h0; rw [h3 rfl]; rfl
    · rw [if_neg h0]
      obtain ⟨cs, rw', rfl, hc⟩ := h4 (by omega)
      simp only [readN, h1]
      simp only [ESz.one_n] at hc
      rw [hc]; rfl

theorem IsInts.src {h : Heap} {t : SV} {xs : List Int} (ht : IsInts h t xs) : srcCells h 1 t = some ((xs.map (SV.int .i64)).length, xs.map (.int .i64)) := by
  have := IsSl.src (n := xs.length) ht (by simp)
  simpa using this

theorem Own.ids {h0 h : Heap} {s : SV} {xs : List Int} (ho : Own h0 h s (xs.map (.int .i64))) : IsInts h s xs := by
  have := ho.sl
  simpa [IsInts] using this

theorem notAt_of_le {h0 h : Heap} {s : SV} {vs : List SV} (ho : Own h0 h s vs) {j : Nat} (hj : j < h0.length) : NotAt s j := by
  rcases ho with ⟨rfl, -⟩ | ⟨id, cap, cs, rfl, h1, -⟩
  · intro o n c hc; cases hc
  · intro o n c hc; cases hc; omega

/-- append of cells to a slice of one's own. -/
theorem own_app {h0 h : Heap} {s : SV} {vs ws : List SV} {bytes : Nat} (he : Ext h0 h) (ho : Own h0 h s vs) (hb : (vs.length + ws.length) * (bytes + 1) ≤ bigN) :
    ∃ s' h', appS h 1 bytes s ws.length ws = some (s', h') ∧ Own h0 h' s' (vs ++ ws) ∧ Ext h0 h' ∧ h.length ≤ h'.length ∧ Fram h h' s s' := by
  have hl := he.len
  rcases ho with ⟨rfl, rfl⟩ | ⟨id, cap, cs, rfl, h1, h2, h3, h4⟩
  · by_cases hm : ws.length = 0
    · have : ws = [] := List.eq_nil_of_length_eq_zero hm
      subst this
      exact ⟨.nilS, h, rfl, .inl ⟨rfl, rfl⟩, he, Nat.le_refl _, fun j b hj hn => ⟨hj, fun o n c hc => by cases hc⟩⟩
    · refine ⟨.slc h.length 0 ws.length none, h ++ [.cells ws true 1], ?_, ?_, he.app _, by simp, ?_⟩
      · simp only [appS]
        rw [if_neg hm, if_pos (by simpa using hb)]
      · exact .inr ⟨h.length, none, ws, by simp, hl, by simp, by simp, by simp [Room]⟩
      · intro j b hj hn
        have hjl := (List.getElem?_eq_some_iff.1 hj).1
        exact ⟨mono_app j b hj, fun o n c hc => by cases hc; omega⟩
  · have hid : id < h.length := (List.getElem?_eq_some_iff.1 h2).1
    have hlen : vs.length ≤ cs.length := by
      have := congrArg List.length h3
      simp at this
      omega
    by_cases hm : ws.length = 0
    · have : ws = [] := List.eq_nil_of_length_eq_zero hm
      subst this
      refine ⟨.slc id 0 vs.length cap, h, rfl, .inr ⟨id, cap, cs, by simp, h1, h2, by simpa using h3, by simpa using h4⟩, he, Nat.le_refl _, fun j b hj hn => ⟨hj, hn⟩⟩
    have hcut : cut cs 0 (vs.length * 1) = some vs := by
      unfold cut
      rw [if_pos (by omega)]
      simp [h3]
    have fresh : ∀ (j : Nat) (b : Blk), h[j]? = some b → ∀ k, NotAt (SV.slc h.length 0 k none) j := by
      intro j b hj k o n c hc
      have := (List.getElem?_eq_some_iff.1 hj).1
      cases hc; omega
    cases cap with
    | none =>
      refine ⟨.slc h.length 0 (vs.length + ws.length) none, h.set id (.dead 1) ++ [.cells (vs ++ ws) true 1], ?_, ?_, (he.set h1 _).app _, by simp, ?_⟩
      · simp only [appS]
        rw [if_neg hm, if_pos hb, h2]
        simp only [if_true, ESz.one_n, hcut, ESz.one_ty]
        rw [if_pos (by simp)]
      · refine .inr ⟨h.length, none, vs ++ ws, by simp, hl, ?_, List.take_length, by simp [Room]⟩
        rw [List.getElem?_append_right (by simp)]; simp
      · intro j b hj hn
        have hne : id ≠ j := fun e => by subst e; exact hn _ _ _ rfl
        refine ⟨mono_app j b ?_, fresh j b hj _⟩
        rw [List.getElem?_set_ne hne]; exact hj
    | some c =>
      obtain ⟨h5, h6⟩ := h4
      by_cases hc : c < vs.length + ws.length
      · refine ⟨.slc h.length 0 (vs.length + ws.length) none, h ++ [.cells (vs ++ ws) true 1], ?_, ?_, he.app _, by simp, ?_⟩
        · simp only [appS]
          rw [if_neg hm, if_pos hb, h2]
          simp only [if_true, ESz.one_n, hcut]
          rw [if_pos hc]
        · refine .inr ⟨h.length, none, vs ++ ws, by simp, hl, ?_, List.take_length, by simp [Room]⟩
          rw [List.getElem?_append_right (Nat.le_refl _)]; simp
        · exact fun j b hj hn => ⟨mono_app j b hj, fresh j b hj _⟩
      · have hsp : splice cs (0 + vs.length * 1) ws = vs ++ ws ++ cs.drop (vs.length + ws.length) := by
          unfold splice
          simp [h3]
        refine ⟨.slc id 0 (vs.length + ws.length) (some c), h.set id (.cells (splice cs (0 + vs.length * 1) ws) true 1), ?_, ?_, he.set h1 _, by simp, ?_⟩
        · simp only [appS]
          rw [if_neg hm, if_pos hb, h2]
          simp only [if_true, ESz.one_n, hcut]
          rw [if_neg hc]
          simp only [writeN, h2]
          rw [if_pos (by omega)]; rfl
        · refine .inr ⟨id, some c, splice cs (0 + vs.length * 1) ws, by simp, h1, ?_, ?_, ?_, by simp; omega⟩
          · rw [List.getElem?_set_self hid]
          · rw [hsp, show (vs ++ ws).length = (vs ++ ws).length from rfl]; exact List.take_left
          · rw [hsp]; simp; omega
        · intro j b hj hn
          have hne : id ≠ j := fun e => by subst e; exact hn _ _ _ rfl
          refine ⟨?_, fun o n c' e => hn _ _ _ (by cases e; rfl)⟩
          rw [List.getElem?_set_ne hne]; exact hj

/-- A part of a slice. -/
theorem IsSl.part {h : Heap} {s : SV} {n l u : Nat} {vs : List SV} (hs : IsSl h s 1 n vs) (hn : vs.length = n) (hlu : l ≤ u) (hu : u ≤ n) :
    ∃ s', slice1 l u s = some s' ∧ IsSl h s' 1 (u - l) ((vs.drop l).take (u - l)) ∧ ∀ j, NotAt s j → NotAt s' j := by
  rcases hs with ⟨rfl, rfl, rfl⟩ | ⟨id, off, cap, b, rfl, h1, h2, h3, h4⟩
  · obtain rfl : u = 0 := by omega
    obtain rfl : l = 0 := by omega
    exact ⟨.nilS, rfl, .inl ⟨rfl, rfl, by simp⟩, fun j hj => hj⟩
  · refine ⟨.slc id (off + l) (u - l) (cap.map (· - l)), by simp only [slice1]; rw [if_pos ⟨hlu, hu⟩], .inr ⟨id, off + l, cap.map (· - l), b, rfl, h1, h2, fun h0 => by rw [h0]; simp, fun h0 => ?_⟩, fun j hj o n c e => hj _ _ _ (by cases e; rfl)⟩
    obtain ⟨cs, rw', rfl, hc⟩ := h4 (by omega)
    refine ⟨cs, rw', rfl, ?_⟩
    unfold cut at hc ⊢
    simp only [ESz.one_n, Nat.mul_one] at hc ⊢
    split at hc
    · rename_i hle
      simp only [Option.some.injEq] at hc
      rw [if_pos (by omega), ← hc, List.drop_take, List.drop_drop, List.take_take]
      rw [Nat.min_eq_left (by omega)]
    · simp at hc

theorem IsInts.part {h : Heap} {s : SV} {xs : List Int} {l u : Nat} (hs : IsInts h s xs) (hlu : l ≤ u) (hu : u ≤ xs.length) :
    ∃ s', slice1 l u s = some s' ∧ IsInts h s' ((xs.drop l).take (u - l)) ∧ ∀ j, NotAt s j → NotAt s' j := by
  obtain ⟨s', h1, h2, h3⟩ := IsSl.part hs (by simp) hlu hu
  refine ⟨s', h1, ?_, h3⟩
  unfold IsInts
  rw [show ((xs.drop l).take (u - l)).length = u - l by simp; omega]
  rw [List.map_take, List.map_drop]
  exact h2

/-- It stays readable where its block stays. -/
theorem IsSl.keep {h h' : Heap} {t : SV} {e : ESz} {n : Nat} {ws : List SV} (ht : IsSl h t e n ws) (hk : ∀ (j : Nat) (b : Blk), h[j]? = some b → ¬ NotAt t j → h'[j]? = some b) : IsSl h' t e n ws := by
  rcases ht with hs | ⟨id, off, cap, b, rfl, h1, h2⟩
  · exact .inl hs
  · exact .inr ⟨id, off, cap, b, rfl, hk id b h1 (fun hn => hn _ _ _ rfl), h2⟩

/-- Two slices do not share a block. -/
def Apart (s t : SV) : Prop := ∀ j, NotAt s j ∨ NotAt t j
theorem Apart.symm {s t : SV} (h : Apart s t) : Apart t s := fun j => (h j).symm
theorem IsSl.away {h h' : Heap} {s s' t : SV} {e : ESz} {n : Nat} {ws : List SV} (ht : IsSl h t e n ws) (hf : Fram h h' s s') (ha : Apart s t) : IsSl h' t e n ws :=
  ht.keep fun j b hj hn => (hf j b hj ((ha j).resolve_right hn)).1
theorem Fram.apart {h h' : Heap} {s s' t : SV} {e : ESz} {n : Nat} {ws : List SV} (hf : Fram h h' s s') (ht : IsSl h t e n ws) (ha : Apart s t) : Apart s' t := by
  intro j
  rcases ht with ⟨rfl, -⟩ | ⟨id, off, cap, b, rfl, h1, -⟩
  · exact .inr fun o n c hc => by cases hc
  · by_cases hj : j = id
    · subst hj
      rcases ha j with h2 | h2
      · exact .inl (hf j b h1 h2).2
      · exact absurd rfl (h2 _ _ _)
    · exact .inr fun o n c hc => hj (by cases hc; rfl)
theorem Own.away {h0 h h' : Heap} {s s' t : SV} {ws : List SV} (ht : Own h0 h t ws) (hf : Fram h h' s s') (ha : Apart s t) : Own h0 h' t ws := by
  rcases ht with hs | ⟨id, cap, cs, rfl, h1, h2, h3⟩
  · exact .inl hs
  · exact .inr ⟨id, cap, cs, rfl, h1, (hf id _ h2 ((ha id).resolve_right fun hn => hn _ _ _ rfl)).1, h3⟩
/-- A slice of what was there, and one of one's own. -/
theorem apart_old {h0 h : Heap} {s t : SV} {vs ws : List SV} {e : ESz} {n : Nat} (hs : Own h0 h s vs) (ht : IsSl h0 t e n ws) : Apart s t := by
  intro j
  rcases ht with ⟨rfl, -⟩ | ⟨id, off, cap, b, rfl, h1, -⟩
  · exact .inr fun o n c hc => by cases hc
  · by_cases hj : j = id
    · subst hj
      exact .inl (notAt_of_le hs (List.getElem?_eq_some_iff.1 h1).1)
    · exact .inr fun o n c hc => hj (by cases hc; rfl)
theorem IsSl.ext {h h' : Heap} {t : SV} {e : ESz} {n : Nat} {ws : List SV} (ht : IsSl h t e n ws) (he : Ext h h') : IsSl h' t e n ws := IsSl.mono ht he.get
theorem Own.weaken {h0 h1 h : Heap} {s : SV} {vs : List SV} (hs : Own h1 h s vs) (hl : h0.length ≤ h1.length) : Own h0 h s vs := by
  rcases hs with hs | ⟨id, cap, cs, rfl, h1, h2, h3⟩
  · exact .inl hs
  · exact .inr ⟨id, cap, cs, rfl, by omega, h2, h3⟩
/-- What was one's own before memory grew is still so. -/
theorem Own.ext {h0 h h' : Heap} {s : SV} {vs : List SV} (hs : Own h0 h s vs) (he : Ext h h') : Own h0 h' s vs := by
  rcases hs with hs | ⟨id, cap, cs, rfl, h1, h2, h3⟩
  · exact .inl hs
  · exact .inr ⟨id, cap, cs, rfl, h1, he.get _ _ h2, h3⟩
/-- A shorter one of one's own. -/
theorem Own.pop {h0 h : Heap} {s : SV} {vs : List SV} {u : Nat} (hs : Own h0 h s vs) (hu : u ≤ vs.length) : ∃ s', slice1 0 u s = some s' ∧ Own h0 h s' (vs.take u) ∧ ∀ j, NotAt s j → NotAt s' j := by
  rcases hs with ⟨rfl, rfl⟩ | ⟨id, cap, cs, rfl, h1, h2, h3, h4⟩
  · obtain rfl : u = 0 := by simpa using hu
    exact ⟨.nilS, rfl, .inl ⟨rfl, by simp⟩, fun j hj => hj⟩
  · refine ⟨.slc id (0 + 0) (u - 0) (cap.map (· - 0)), by simp only [slice1]; rw [if_pos ⟨Nat.zero_le _, hu⟩], .inr ⟨id, cap, cs, ?_, h1, h2, ?_, ?_⟩, fun j hj o n c e => hj _ _ _ (by cases e; rfl)⟩
    · rw [List.length_take, Nat.min_eq_left hu]
      cases cap <;> simp
    · rw [List.length_take, Nat.min_eq_left hu, ← h3, List.take_take]
      congr 1
      have := congrArg List.length h3
      simp at this
      omega
    · rw [List.length_take, Nat.min_eq_left hu]
      cases cap with
      | none => exact Nat.le_trans hu h4
      | some c => exact ⟨h4.1, Nat.le_trans hu h4.2⟩

section
variable {FT : FuncId → Option AFun} {HK : FuncId → Option Hook} {E : Env} {h : Heap} {K : Env → Heap → Prop} {d : Option Nat} {r : List AOp} {x y : AO}

theorem k_app {h0 : Heap} {s t : SV} {vs ws : List SV} {bytes : Nat} {z : List SV} (he : Ext h0 h) (ho : Own h0 h s vs) (hx : evS E x = some s) (hy : evS E y = some t) (hs : srcCells h 1 t = some (ws.length, ws)) (hb : (vs.length + ws.length) * (bytes + 1) ≤ bigN)
    (hw : ∀ s' h', Own h0 h' s' (vs ++ ws) → Ext h0 h' → h.length ≤ h'.length → Fram h h' s s' → wOps FT HK r (bindE d (some (.sc s')) E) h' K) : wOps FT HK (⟨d, .app 1 bytes z x y, none⟩ :: r) E h K := by
  obtain ⟨s', h', h1, h2, h3, h4, h5⟩ := own_app (ws := ws) (bytes := bytes) he ho hb
  refine op_ok (v := some (.sc s')) (h' := h') rfl rfl ?_ (hw s' h' h2 h3 h4 h5)
  simp only [step1, hx, hy, Option.bind_some, ESz.one_n, hs, h1]
  rfl

theorem k_part {lo hi : Option AO} {s s' : SV} {n : Int} {l u : Nat} (hx : evS E x = some s) (hn : lenS false s = some n) (hl : bnd E 0 lo = some l) (hu : bnd E n.toNat hi = some u) (hs : slice1 l u s = some s')
    (hw : wOps FT HK r (bindE d (some (.sc s')) E) h K) : wOps FT HK (⟨d, .sl1 x lo hi, none⟩ :: r) E h K :=
  op_ok rfl rfl (by simp only [step1, hx, hn, hl, hu, Option.bind_some, hs]; rfl) hw

/-- make of a slice of one's own. -/
theorem k_make {bytes : Nat} {z : SV} {n m : Int} {k1 k2 : IntKind} (hx : evS E x = some (.int k1 n)) (hy : evS E y = some (.int k2 m)) (hb : 0 ≤ n ∧ n ≤ m ∧ m * (bytes + 1 : Nat) ≤ bigN)
    (hw : Own h (h ++ [.cells (rep [z] m.toNat) true 1]) (.slc h.length 0 n.toNat (some m.toNat)) (rep [z] n.toNat) →
      wOps FT HK r (bindE d (some (.sc (.slc h.length 0 n.toNat (some m.toNat)))) E) (h ++ [.cells (rep [z] m.toNat) true 1]) K) : wOps FT HK (⟨d, .mk 1 bytes [z] x y, none⟩ :: r) E h K := by
  refine op_mk rfl hx hy hb (hw ?_)
  have hr : ∀ k, rep [z] k = List.replicate k z := by
    intro k
    induction k with
    | zero => rfl
    | succ k ih => simp [rep, ih, List.replicate_succ]
  refine .inr ⟨h.length, some m.toNat, rep [z] m.toNat, by rw [hr]; simp, Nat.le_refl _, by simp, ?_, ?_⟩
  · rw [hr, hr, List.length_replicate, List.take_replicate, Nat.min_eq_left (by omega)]
  · rw [hr, hr]; simp [Room]; omega

variable {rd : List (AOp × Nat × Bool)}
theorem d_nil (hw : wOps FT HK [] E h K) : wOpsD FT HK [] E h K := hw
theorem d_any {h' : Heap} {E' : Env} {ord : Bool} (ho : ord = true ∨ h'.take h.length = h) (hw : wOpsD FT HK rd E' h' K) : wOps FT HK [] E' h' (fun E' h' => (ord = true ∨ h'.take h.length = h) ∧ wOpsD FT HK rd E' h' K) := ⟨ho, hw⟩
end
end Go.Ab
namespace Go.Ab
theorem Fram.refl (h : Heap) (s : SV) : Fram h h s s := fun _ _ hj hn => ⟨hj, hn⟩
theorem Fram.trans {a b c : Heap} {s t u : SV} (h1 : Fram a b s t) (h2 : Fram b c t u) : Fram a c s u := fun j x hj hn =>
  let ⟨p, q⟩ := h1 j x hj hn; h2 j x p q
theorem Fram.pop {h h' : Heap} {s t u : SV} (h1 : Fram h h' s t) (h2 : ∀ j, NotAt t j → NotAt u j) : Fram h h' s u := fun j x hj hn =>
  let ⟨p, q⟩ := h1 j x hj hn; ⟨p, h2 j q⟩
section
variable {FT : FuncId → Option AFun} {HK : FuncId → Option Hook} {E : Env} {h : Heap} {K : Env → Heap → Prop} {r : List AOp}
theorem k_push {h0 : Heap} {s x z : SV} {vs : List SV} {a b bytes : Nat} {ao bo : AO} {zz : List SV} (he : Ext h0 h) (ho : Own h0 h s vs) (hx : ev E bo = some (.sc x)) (hs : evS (bindE (some a) (some (.sc (.slc h.length 0 1 (some 1)))) E) ao = some s) (hb : (vs.length + 1) * (bytes + 1) ≤ bigN)
    (hw : ∀ s' h', Own h0 h' s' (vs ++ [x]) → Ext h0 h' → Fram h h' s s' → wOps FT HK r (bindE (some b) (some (.sc s')) (bindE (some a) (some (.sc (.slc h.length 0 1 (some 1)))) E)) h' K) :
    wOps FT HK (⟨some a, .bsl 1 [z] 1 [(0, bo)], none⟩ :: ⟨some b, .app 1 bytes zz ao (.t a), none⟩ :: r) E h K :=
  op_push hx hs he ho hb hw
theorem k_st2 {id off : Nat} {v : SV} {h' : Heap} {d : Option Nat} {p x : AO} (ha : evS E p = some (.ptr id off)) (hx : evS E x = some v) (hr : writeN h id off [v] = some h')
    (hw : wOps FT HK r (bindE d none E) h' K) : wOps FT HK (⟨d, .st 1 p x, none⟩ :: r) E h K := op_st rfl ha (by
      unfold evS at hx
      split at hx
      · simp at hx; subst hx; assumption
      · simp at hx) hr hw
end
end Go.Ab
namespace Go.Ab
section
variable {FT : FuncId → Option AFun} {HK : FuncId → Option Hook} {E : Env} {h : Heap} {K : Env → Heap → Prop} {d : Option Nat} {r : List AOp} {x lo hi : AO}
theorem bnd_some {n : Nat} {y : AO} {kd : IntKind} {m : Int} (hy : evS E y = some (.int kd m)) (h0 : 0 ≤ m) : bnd E n (some y) = some m.toNat := by
  simp only [bnd, hy]; rw [if_pos h0]
theorem k_to {s s' : SV} {n m : Int} {kd : IntKind} (hx : evS E x = some s) (hn : lenS false s = some n) (hh : evS E hi = some (.int kd m)) (h0 : 0 ≤ m) (hs : slice1 0 m.toNat s = some s')
    (hw : wOps FT HK r (bindE d (some (.sc s')) E) h K) : wOps FT HK (⟨d, .sl1 x none (some hi), none⟩ :: r) E h K :=
  k_part hx hn rfl (bnd_some hh h0) hs hw
theorem k_from {s s' : SV} {n m : Int} {kd : IntKind} (hx : evS E x = some s) (hn : lenS false s = some n) (hl : evS E lo = some (.int kd m)) (h0 : 0 ≤ m) (hs : slice1 m.toNat n.toNat s = some s')
    (hw : wOps FT HK r (bindE d (some (.sc s')) E) h K) : wOps FT HK (⟨d, .sl1 x (some lo) none, none⟩ :: r) E h K :=
  k_part hx hn (bnd_some hl h0) rfl hs hw
theorem k_span {s s' : SV} {n m m2 : Int} {kd k2 : IntKind} (hx : evS E x = some s) (hn : lenS false s = some n) (hl : evS E lo = some (.int kd m)) (hh : evS E hi = some (.int k2 m2)) (h0 : 0 ≤ m ∧ 0 ≤ m2) (hs : slice1 m.toNat m2.toNat s = some s')
    (hw : wOps FT HK r (bindE d (some (.sc s')) E) h K) : wOps FT HK (⟨d, .sl1 x (some lo) (some hi), none⟩ :: r) E h K :=
  k_part hx hn (bnd_some hl h0.1) (bnd_some hh h0.2) hs hw
end
end Go.Ab
namespace Go.Ab
theorem src_last {h : Heap} {cs : List SV} {rw' : Bool} {n : Nat} {c : Option Nat} (hn : cs.length = n) : srcCells (h ++ [.cells cs rw' 1]) 1 (.slc h.length 0 n c) = some (n, cs) := by
  simp only [srcCells]
  by_cases h0 : n = 0
  · subst h0
    rw [if_pos rfl, List.eq_nil_of_length_eq_zero hn]
  · rw [if_neg h0, Nat.mul_one]
    simp only [readN, List.getElem?_append_right (Nat.le_refl _), Nat.sub_self, List.getElem?_cons_zero]
    unfold cut
    rw [if_pos (by omega)]
    simp [← hn]
/-- append to an empty literal: memory grows. -/
theorem own_new {h0 h : Heap} {id : Nat} {ws : List SV} {bytes : Nat} (he : Ext h0 h) (ho : Own h0 h (.slc id 0 0 (some 0)) []) (hb : ws.length * (bytes + 1) ≤ bigN) :
    ∃ s' h', appS h 1 bytes (.slc id 0 0 (some 0)) ws.length ws = some (s', h') ∧ Own h0 h' s' ws ∧ Ext h h' ∧ Fram h h' (.slc id 0 0 (some 0)) s' := by
  by_cases hm : ws.length = 0
  · have : ws = [] := List.eq_nil_of_length_eq_zero hm
    subst this
    exact ⟨_, h, rfl, ho, Ext.refl h, fun j b hj hn => ⟨hj, hn⟩⟩
  · rcases ho with ⟨h1, -⟩ | ⟨id', cap, cs, h1, h2, h3, h4, h5⟩
    · cases h1
    · cases h1
      have hl := he.len
      obtain ⟨h5, -⟩ := h5
      have hcs : cs = [] := List.eq_nil_of_length_eq_zero h5
      subst hcs
      refine ⟨.slc h.length 0 ws.length none, h ++ [.cells ws true 1], ?_, .inr ⟨h.length, none, ws, rfl, hl, by simp, by simp, Nat.le_refl _⟩, ⟨_, rfl⟩, ?_⟩
      · simp only [appS]
        rw [if_neg hm, if_pos (by simpa using hb), h3]
        simp only [if_true, ESz.one_n]
        have : cut [] 0 (0 * 1) = some ([] : List SV) := rfl
        rw [this]
        simp only
        rw [if_pos (by omega)]
        simp
      · intro j b hj hn
        have hjl := (List.getElem?_eq_some_iff.1 hj).1
        exact ⟨mono_app j b hj, fun o n c hc => by cases hc; omega⟩
theorem Own.lit0 (h0 : Heap) : Own h0 (h0 ++ [.cells [] true 1]) (.slc h0.length 0 0 (some 0)) [] :=
  .inr ⟨h0.length, some 0, [], rfl, Nat.le_refl _, by simp, rfl, rfl, Nat.le_refl _⟩
section
variable {FT : FuncId → Option AFun} {HK : FuncId → Option Hook} {E : Env} {h : Heap} {K : Env → Heap → Prop} {d : Option Nat} {r : List AOp} {x y : AO}
theorem k_app0 {h0 : Heap} {id : Nat} {t : SV} {ws : List SV} {bytes : Nat} {z : List SV} (he : Ext h0 h) (ho : Own h0 h (.slc id 0 0 (some 0)) []) (hx : evS E x = some (.slc id 0 0 (some 0))) (hy : evS E y = some t) (hs : srcCells h 1 t = some (ws.length, ws)) (hb : ws.length * (bytes + 1) ≤ bigN)
    (hw : ∀ s' h', Own h0 h' s' ws → Ext h h' → Fram h h' (.slc id 0 0 (some 0)) s' → wOps FT HK r (bindE d (some (.sc s')) E) h' K) : wOps FT HK (⟨d, .app 1 bytes z x y, none⟩ :: r) E h K := by
  obtain ⟨s', h', h1, h2, h3, h4⟩ := own_new (ws := ws) (bytes := bytes) he ho hb
  refine op_ok (v := some (.sc s')) (h' := h') rfl rfl ?_ (hw s' h' h2 h3 h4)
  simp only [step1, hx, hy, Option.bind_some, ESz.one_n, hs, h1]
  rfl
end
end Go.Ab
namespace Go.Ab
theorem lit_i64 {n : Int} (w : (Lit.int .i64 n).wf = true) : -9223372036854775808 ≤ n ∧ n ≤ 9223372036854775807 := by
  simp [Lit.wf] at w; exact w
theorem lit_i8 {n : Int} (w : (Lit.int .i8 n).wf = true) : -128 ≤ n ∧ n ≤ 127 := by
  simp [Lit.wf] at w; exact w
theorem lit_i16 {n : Int} (w : (Lit.int .i16 n).wf = true) : -32768 ≤ n ∧ n ≤ 32767 := by
  simp [Lit.wf] at w; exact w
theorem lit_u8 {n : Int} (w : (Lit.int .u8 n).wf = true) : 0 ≤ n ∧ n ≤ 255 := by
  simp [Lit.wf] at w; exact w
theorem lit_u16 {n : Int} (w : (Lit.int .u16 n).wf = true) : 0 ≤ n ∧ n ≤ 65535 := by
  simp [Lit.wf] at w; exact w
theorem IsInts.lit {h : Heap} {xs : List Int} {cs : List SV} {rw' : Bool} {n : Nat} {c : Option Nat} (hc : cs = xs.map (.int .i64)) (hn : xs.length = n) : IsInts (h ++ [.cells cs rw' 1]) (.slc h.length 0 n c) xs := by
  subst hc hn
  refine .inr ⟨h.length, 0, c, _, rfl, by simp, rfl, fun h0 => by rw [List.eq_nil_of_length_eq_zero h0]; rfl, fun _ => ⟨xs.map (.int .i64), rw', rfl, ?_⟩⟩
  unfold cut
  simp only [ESz.one_n]
  rw [if_pos (by simp)]
  simp only [List.drop_zero, Option.some.injEq]
  exact List.take_of_length_le (by simp)
section
variable {FT : FuncId → Option AFun} {HK : FuncId → Option Hook} {E : Env} {h : Heap} {K : Env → Heap → Prop} {d : Option Nat} {r : List AOp} {x y : AO}
theorem k_conv {kd : IntKind} {m : Int} (hx : evS E x = some (.int kd m)) (hr : -9223372036854775808 ≤ m ∧ m ≤ 9223372036854775807) (hw : wOps FT HK r (bindE d (some (.sc (.int .i64 m))) E) h K) : wOps FT HK (⟨d, .conv .i64 x, none⟩ :: r) E h K :=
  op_wrap rfl rfl (by simp only [step1, hx]; rfl) hr hw
end
end Go.Ab


/- Structs in memory; loads by what a block holds. -/
namespace Go.Ab
set_option linter.unusedVariables false

/-- Block id holds cs. -/
def Blk.At (h : Heap) (id : Nat) (cs : List SV) : Prop := ∃ rw' z, h[id]? = some (.cells cs rw' z)
theorem Blk.At.ext {h h' : Heap} {id : Nat} {cs : List SV} (hb : Blk.At h id cs) (he : Ext h h') : Blk.At h' id cs :=
  let ⟨rw', z, h1⟩ := hb; ⟨rw', z, he.get _ _ h1⟩
theorem Blk.At.read {h : Heap} {id off n : Nat} {cs vs : List SV} (hb : Blk.At h id cs) (hc : cut cs off n = some vs) : readN h id off n = some vs := by
  obtain ⟨rw', z, h1⟩ := hb
  simp only [readN, h1, hc]
theorem Blk.At.last (h : Heap) (cs : List SV) (rw' : Bool) (z : ESz) : Blk.At (h ++ [.cells cs rw' z]) h.length cs := ⟨rw', z, by simp⟩

section
variable {FT : FuncId → Option AFun} {HK : FuncId → Option Hook} {E : Env} {h : Heap} {K : Env → Heap → Prop} {d : Option Nat} {r : List AOp} {x y : AO}
theorem k_box {v : AV} {cs : List SV} (hx : ev E x = some v) (hc : v.cells = some cs) (hw : ∀ h1, Ext h h1 → h.length < h1.length → Blk.At h1 h.length cs → wOps FT HK r (bindE d (some (.sc (.ptr h.length 0))) E) h1 K) :
    wOps FT HK (⟨d, .box x, none⟩ :: r) E h K :=
  op_ok (v := some (.sc (.ptr h.length 0))) (h' := h ++ [.cells cs true 0]) rfl rfl (by simp only [step1, hx, Option.bind_some, hc, Option.map_some]) (hw _ ⟨_, rfl⟩ (by simp) (Blk.At.last h cs true 0))
theorem k_ldb {id off : Nat} {v : SV} {cs : List SV} (hx : evS E x = some (.ptr id off)) (hb : Blk.At h id cs) (hv : cut cs off 1 = some [v])
    (hw : wOps FT HK r (bindE d (some (.sc v)) E) h K) : wOps FT HK (⟨d, .ld 1 false x, none⟩ :: r) E h K := op_ld rfl hx (hb.read hv) hw
theorem k_ldA {id off n : Nat} {cs vs : List SV} (hx : evS E x = some (.ptr id off)) (hb : Blk.At h id cs) (hv : cut cs off n = some vs)
    (hw : wOps FT HK r (bindE d (some (.agg vs)) E) h K) : wOps FT HK (⟨d, .ld n true x, none⟩ :: r) E h K := op_ldA rfl hx (hb.read hv) hw
theorem k_fldA {id off o : Nat} (hx : evS E x = some (.ptr id o)) (hw : wOps FT HK r (bindE d (some (.sc (.ptr id (o + off)))) E) h K) : wOps FT HK (⟨d, .fldA off x, none⟩ :: r) E h K :=
  op_ok rfl rfl (by simp only [step1, hx]) hw
/-- make, the result as a slice of one's own. -/
theorem k_mkO {h0 : Heap} {bytes : Nat} {z : SV} {n m : Int} {k1 k2 : IntKind} (he : Ext h0 h) (hx : evS E x = some (.int k1 n)) (hy : evS E y = some (.int k2 m)) (hb : 0 ≤ n ∧ n ≤ m ∧ m * (bytes + 1 : Nat) ≤ bigN)
    (hw : ∀ s h1, Own h h1 s (List.replicate n.toNat z) → Ext h h1 → Ext h0 h1 → h.length < h1.length → wOps FT HK r (bindE d (some (.sc s)) E) h1 K) : wOps FT HK (⟨d, .mk 1 bytes [z] x y, none⟩ :: r) E h K := by
  refine k_make hx hy hb fun ho => ?_
  have hr : ∀ k, rep [z] k = List.replicate k z := by
    intro k
    induction k with
    | zero => rfl
    | succ k ih => simp [rep, ih, List.replicate_succ]
  rw [hr n.toNat] at ho
  exact hw _ _ ho ⟨_, rfl⟩ (he.app _) (by simp)
end

/-- A value of a slice of one's own is read. -/
theorem Own.rd {h0 h : Heap} {s : SV} {vs : List SV} {i : Nat} {v : SV} (ho : Own h0 h s vs) (hv : vs[i]? = some v) : ∃ id cap, s = .slc id 0 vs.length cap ∧ readN h id (0 + i * 1) 1 = some [v] := by
  rcases ho with ⟨rfl, rfl⟩ | ⟨id, cap, cs, rfl, h1, h2, h3, h4⟩
  · simp at hv
  · refine ⟨id, cap, rfl, ?_⟩
    have hi := (List.getElem?_eq_some_iff.1 hv).1
    have hl : vs.length ≤ cs.length := by have := congrArg List.length h3; simp at this; omega
    have hc : cs[i]? = some v := by
      rw [← h3, List.getElem?_take_of_lt hi] at hv
      exact hv
    simp only [readN, h2]
    unfold cut
    rw [if_pos (by omega)]
    obtain ⟨h9, h10⟩ := List.getElem?_eq_some_iff.1 hc
    simp only [Nat.zero_add, Nat.mul_one]
    rw [List.drop_eq_getElem_cons h9, h10]; rfl

/-- .. and is written. -/
theorem Own.wr {h0 h : Heap} {s : SV} {vs : List SV} {i : Nat} (he : Ext h0 h) (ho : Own h0 h s vs) (hi : i < vs.length) (v : SV) :
    ∃ id cap h', s = .slc id 0 vs.length cap ∧ writeN h id (0 + i * 1) [v] = some h' ∧ Own h0 h' s (vs.set i v) ∧ Ext h0 h' ∧ Fram h h' s s ∧ h'.length = h.length := by
  rcases ho with ⟨rfl, rfl⟩ | ⟨id, cap, cs, rfl, h1, h2, h3, h4⟩
  · simp at hi
  · have hl : vs.length ≤ cs.length := by have := congrArg List.length h3; simp at this; omega
    have hid : id < h.length := (List.getElem?_eq_some_iff.1 h2).1
    have hsp : splice cs i [v] = cs.set i v := by
      rw [List.set_eq_take_append_cons_drop, if_pos (by omega)]
      simp [splice]
    refine ⟨id, cap, h.set id (.cells (cs.set i v) true 1), rfl, ?_, .inr ⟨id, cap, cs.set i v, by simp, h1, List.getElem?_set_self hid, ?_, ?_⟩, he.set h1 _, ?_, by simp⟩
    · simp only [writeN, h2, Nat.zero_add, Nat.mul_one, List.length_singleton]
      rw [if_pos (by omega), hsp]
    · rw [List.length_set, List.take_set, h3]
    · cases cap with
      | none => simpa [Room] using h4
      | some c => simpa [Room] using h4
    · intro j b hj hn
      have hne : id ≠ j := fun e => by subst e; exact hn _ _ _ rfl
      exact ⟨by rw [List.getElem?_set_ne hne]; exact hj, hn⟩
end Go.Ab

