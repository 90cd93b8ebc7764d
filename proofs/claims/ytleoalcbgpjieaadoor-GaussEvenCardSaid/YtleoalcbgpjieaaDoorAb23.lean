import Derived.Test.YtleoalcbgpjieaaDoorAb20
/- Step by step through a region: each lemma one operation. -/
namespace Go.Ab
set_option linter.unusedVariables false
section
variable {FT : FuncId → Option AFun} {HK : FuncId → Option Hook} {E : Env} {h : Heap} {K : Env → Heap → Prop} {d : Option Nat} {g : Option (Nat × Bool)} {r : List AOp}

def isCall : AK → Bool
  | .call _ _ => true
  | .callv _ _ => true
  | _ => false

theorem wK_step {k : AK} {K : Option AV → Heap → Prop} {v : Option AV} {h' : Heap} (hk : isCall k = false) (hs : step1 E h k = some (v, h')) (hK : K v h') : wK FT HK E h k K := by
  unfold wK
  split
  · simp [isCall] at hk
  · simp [isCall] at hk
  · rw [hs]; exact hK

theorem op_ok {k : AK} {v : Option AV} {h' : Heap} (hg : wants E g = some true) (hk : isCall k = false) (hs : step1 E h k = some (v, h')) (hw : wOps FT HK r (bindE d v E) h' K) : wOps FT HK (⟨d, k, g⟩ :: r) E h K := by
  show wOp FT HK _ _ _ _
  unfold wOp
  rw [hg]
  exact ⟨fun _ => wK_step hk hs hw, fun hc => absurd rfl hc⟩

theorem op_skip {k : AK} (hg : wants E g = some false) (hw : wOps FT HK r (bindE d (some (.tup [])) E) h K) : wOps FT HK (⟨d, k, g⟩ :: r) E h K := by
  show wOp FT HK _ _ _ _
  unfold wOp
  rw [hg]
  exact ⟨fun hc => absurd hc (by simp), fun _ => hw⟩

/-- A value that is known by an equation. -/
theorem op_eq {k : AK} {x y : SV} {h' : Heap} (hg : wants E g = some true) (hk : isCall k = false) (hs : step1 E h k = some (some (.sc x), h')) (he : x = y) (hw : wOps FT HK r (bindE d (some (.sc y)) E) h' K) : wOps FT HK (⟨d, k, g⟩ :: r) E h K := by
  subst he
  exact op_ok hg hk hs hw

/-- Arithmetic that stays in range. -/
theorem op_wrap {k : AK} {n : Int} {h' : Heap} (hg : wants E g = some true) (hk : isCall k = false) (hs : step1 E h k = some (some (.sc (.int .i64 (IntKind.i64.wrap n))), h')) (hr : -9223372036854775808 ≤ n ∧ n ≤ 9223372036854775807)
    (hw : wOps FT HK r (bindE d (some (.sc (.int .i64 n))) E) h' K) : wOps FT HK (⟨d, k, g⟩ :: r) E h K :=
  op_eq hg hk hs (by rw [wrap_in hr]) hw

/-- A test. -/
theorem op_test {k : AK} {b : Bool} {h' : Heap} (hg : wants E g = some true) (hk : isCall k = false) (hs : step1 E h k = some (some (.sc (.bool b)), h'))
    (ht : b = true → wOps FT HK r (bindE d (some (.sc (.bool true))) E) h' K) (hf : b = false → wOps FT HK r (bindE d (some (.sc (.bool false))) E) h' K) : wOps FT HK (⟨d, k, g⟩ :: r) E h K := by
  cases b
  · exact op_ok hg hk hs (hf rfl)
  · exact op_ok hg hk hs (ht rfl)

theorem op_test_t {k : AK} {b : Bool} {h' : Heap} (hg : wants E g = some true) (hk : isCall k = false) (hs : step1 E h k = some (some (.sc (.bool b)), h'))
    (hb : b = true) (hw : wOps FT HK r (bindE d (some (.sc (.bool true))) E) h' K) : wOps FT HK (⟨d, k, g⟩ :: r) E h K := op_eq hg hk hs (by rw [hb]) hw
theorem op_test_f {k : AK} {b : Bool} {h' : Heap} (hg : wants E g = some true) (hk : isCall k = false) (hs : step1 E h k = some (some (.sc (.bool b)), h'))
    (hb : b = false) (hw : wOps FT HK r (bindE d (some (.sc (.bool false))) E) h' K) : wOps FT HK (⟨d, k, g⟩ :: r) E h K := op_eq hg hk hs (by rw [hb]) hw

theorem op_len {str : Bool} {x : AO} {s : SV} {n : Int} (hg : wants E g = some true) (hx : evS E x = some s) (hl : lenS str s = some n) (hw : wOps FT HK r (bindE d (some (.sc (.int .i64 n))) E) h K) : wOps FT HK (⟨d, .len str x, g⟩ :: r) E h K :=
  op_ok hg rfl (by simp only [step1, hx, Option.bind_some, hl, Option.map_some]) hw

theorem op_idxA {esz id off n : Nat} {c : Option Nat} {x i : AO} {kd : IntKind} {j : Int} (hg : wants E g = some true) (hx : evS E x = some (.slc id off n c)) (hi : evS E i = some (.int kd j)) (hb : 0 ≤ j ∧ j < n)
    (hw : wOps FT HK r (bindE d (some (.sc (.ptr id (off + j.toNat * esz)))) E) h K) : wOps FT HK (⟨d, .idxA esz x i, g⟩ :: r) E h K :=
  op_ok hg rfl (by simp only [step1, hx, hi]; rw [if_pos hb]) hw

theorem op_idxP {esz id off n : Nat} {x i : AO} {kd : IntKind} {j : Int} (hg : wants E g = some true) (hx : evS E x = some (.ptr id off)) (hi : evS E i = some (.int kd j)) (hb : 0 ≤ j ∧ j < n)
    (hw : wOps FT HK r (bindE d (some (.sc (.ptr id (off + j.toNat * esz)))) E) h K) : wOps FT HK (⟨d, .idxP n esz x i, g⟩ :: r) E h K :=
  op_ok hg rfl (by simp only [step1, hx, hi]; rw [if_pos hb]) hw

theorem op_ld {id off : Nat} {x : AO} {v : SV} (hg : wants E g = some true) (hx : evS E x = some (.ptr id off)) (hr : readN h id off 1 = some [v])
    (hw : wOps FT HK r (bindE d (some (.sc v)) E) h K) : wOps FT HK (⟨d, .ld 1 false x, g⟩ :: r) E h K :=
  op_ok hg rfl (by simp only [step1, hx, hr]; rfl) hw

theorem op_ldA {id off n : Nat} {x : AO} {vs : List SV} (hg : wants E g = some true) (hx : evS E x = some (.ptr id off)) (hr : readN h id off n = some vs)
    (hw : wOps FT HK r (bindE d (some (.agg vs)) E) h K) : wOps FT HK (⟨d, .ld n true x, g⟩ :: r) E h K :=
  op_ok hg rfl (by simp only [step1, hx, hr]; rfl) hw

theorem op_st {id off : Nat} {x a : AO} {v : SV} {h' : Heap} (hg : wants E g = some true) (ha : evS E a = some (.ptr id off)) (hx : ev E x = some (.sc v)) (hr : writeN h id off [v] = some h')
    (hw : wOps FT HK r (bindE d none E) h' K) : wOps FT HK (⟨d, .st 1 a x, g⟩ :: r) E h K :=
  op_ok hg rfl (by simp only [step1, ha, hx, AV.cells, Option.bind_some, List.length_singleton, if_true, hr, Option.map_some]) hw

theorem op_mk {esz : ESz} {bytes : Nat} {zero : List SV} {l c : AO} {k1 k2 : IntKind} {n m : Int} (hg : wants E g = some true) (hl : evS E l = some (.int k1 n)) (hc : evS E c = some (.int k2 m)) (hb : 0 ≤ n ∧ n ≤ m ∧ m * (bytes + 1 : Nat) ≤ bigN)
    (hw : wOps FT HK r (bindE d (some (.sc (.slc h.length 0 n.toNat (some m.toNat)))) E) (h ++ [.cells (rep zero m.toNat) true esz]) K) : wOps FT HK (⟨d, .mk esz bytes zero l c, g⟩ :: r) E h K :=
  op_ok hg rfl (by simp only [step1, hl, hc]; rw [if_pos hb]) hw

theorem op_call {f : FuncId} {args : List AO} {vs : List AV} {R : AV → Heap → Prop} (hg : wants E g = some true) (ha : evs E args = some vs) (hc : ∃ v h', Cal FT HK f vs h v h' ∧ R v h')
    (hw : ∀ v h', R v h' → wOps FT HK r (bindE d (some v) E) h' K) : wOps FT HK (⟨d, .call f args, g⟩ :: r) E h K := by
  show wOp FT HK _ _ _ _
  unfold wOp
  rw [hg]
  refine ⟨fun _ => ?_, fun hc => absurd rfl hc⟩
  show oK (evs E args) _
  rw [ha]
  exact wCall_of hc hw

theorem keep_c {k : Nat} {ks : List Nat} {F : Env} {x : AV} (h1 : E.get k = some x) (h2 : E.keep ks = F) : E.keep (k :: ks) = (k, some x) :: F := by
  rw [keep_cons, h1, h2]
theorem keep_s {k : Nat} {ks : List Nat} {F : Env} {x : SV} (h1 : E.get k = some (.sc x)) (h2 : E.keep ks = F) : E.keep (k :: ks) = (k, some (.sc x)) :: F := keep_c h1 h2

variable {Q : Ex → Env → Heap → Prop}
theorem w_condT {a b : AC} {c : AO} (hc : evS E c = some (.bool true)) (ht : wA FT HK a E h Q) : wA FT HK (.cond c a b) E h Q := w_cond true hc (fun _ => ht) (fun h => absurd h (by simp))
theorem w_condF {a b : AC} {c : AO} (hc : evS E c = some (.bool false)) (ht : wA FT HK b E h Q) : wA FT HK (.cond c a b) E h Q := w_cond false hc (fun h => absurd h (by simp)) (fun _ => ht)
/-- A region. -/
theorem w_ops {ops : List AOp} {ks : List Nat} (hw : wOps FT HK ops E h (fun E' h' => Q .nm (E'.keep ks) h')) : wA FT HK (.reg ops ks) E h Q := hw
theorem w_end {ks : List Nat} {E' : Env} (hk : E.keep ks = E') (hq : Q .nm E' h) : wOps FT HK [] E h (fun E' h' => Q .nm (E'.keep ks) h') := by
  subst hk; exact hq
end
end Go.Ab


/- Slices of one's own, and append. -/
namespace Go.Ab
set_option linter.unusedVariables false

/-- What was there is still there, as it was. -/
def Ext (h0 h : Heap) : Prop := ∃ t, h = h0 ++ t

theorem Ext.refl (h : Heap) : Ext h h := ⟨[], by simp⟩
theorem Ext.trans {a b c : Heap} (h1 : Ext a b) (h2 : Ext b c) : Ext a c := by
  obtain ⟨t, rfl⟩ := h1
  obtain ⟨u, rfl⟩ := h2
  exact ⟨t ++ u, by simp⟩
theorem Ext.app {a b : Heap} (h1 : Ext a b) (t : Heap) : Ext a (b ++ t) := h1.trans ⟨t, rfl⟩
theorem Ext.set {a b : Heap} (h1 : Ext a b) {id : Nat} (hi : a.length ≤ id) (x : Blk) : Ext a (b.set id x) := by
  obtain ⟨t, rfl⟩ := h1
  exact ⟨t.set (id - a.length) x, by rw [List.set_append_right _ _ hi]⟩
theorem Ext.get {a b : Heap} (h1 : Ext a b) (i : Nat) (x : Blk) (hx : a[i]? = some x) : b[i]? = some x := by
  obtain ⟨t, rfl⟩ := h1
  exact mono_app i x hx
theorem Ext.len {a b : Heap} (h1 : Ext a b) : a.length ≤ b.length := by
  obtain ⟨t, rfl⟩ := h1
  simp

/-- Room: a cap that is known or not. -/
def Room (n : Nat) (cs : List SV) : Option Nat → Prop
  | none => n ≤ cs.length
  | some c => cs.length = c ∧ n ≤ c

/-- A slice of one's own: made behind h0, from its block's begin on. -/
def Own (h0 h : Heap) (s : SV) (vs : List SV) : Prop :=
  (s = .nilS ∧ vs = []) ∨ ∃ id cap cs, s = .slc id 0 vs.length cap ∧ h0.length ≤ id ∧ h[id]? = some (.cells cs true 1) ∧ cs.take vs.length = vs ∧ Room vs.length cs cap

theorem Own.len {h0 h : Heap} {s : SV} {vs : List SV} (ho : Own h0 h s vs) : lenS false s = some (vs.length : Int) := by
  rcases ho with ⟨rfl, rfl⟩ | ⟨id, cap, cs, rfl, _⟩ <;> rfl

/-- It reads as it is. -/
theorem Own.sl {h0 h : Heap} {s : SV} {vs : List SV} (ho : Own h0 h s vs) : IsSl h s 1 vs.length vs := by
  rcases ho with ⟨rfl, rfl⟩ | ⟨id, cap, cs, rfl, h1, h2, h3, h4⟩
  · exact .inl ⟨rfl, rfl, rfl⟩
  · refine .inr ⟨id, 0, cap, _, rfl, h2, rfl, fun h => List.eq_nil_of_length_eq_zero h, fun _ => ⟨cs, true, rfl, ?_⟩⟩
    unfold cut
    simp only [ESz.one_n]
    have : vs.length ≤ cs.length := by
      have := congrArg List.length h3
      simp at this
      omega
    rw [if_pos (by omega)]
    simp [h3]

/-- append of one value that lies in a block of its own. -/
theorem push_step {h0 h : Heap} {s : SV} {vs : List SV} {x : SV} {bytes : Nat} (he : Ext h0 h) (ho : Own h0 h s vs) (hb : (vs.length + 1) * (bytes + 1) ≤ bigN) :
    ∃ s' h', ((srcCells (h ++ [Blk.cells [x] true 1]) 1 (.slc h.length 0 1 (some 1))).bind fun p => (appS (h ++ [Blk.cells [x] true 1]) 1 bytes s p.1 p.2).map fun r => ((some (.sc r.1) : Option AV), r.2)) = some (some (.sc s'), h') ∧ Own h0 h' s' (vs ++ [x]) ∧ Ext h0 h' ∧
      ∀ (j : Nat) (b : Blk), h[j]? = some b → (∀ o n c, s ≠ .slc j o n c) → h'[j]? = some b ∧ ∀ o n c, s' ≠ .slc j o n c := by
  have hl := he.len
  have fresh : ∀ (j : Nat) (b : Blk), h[j]? = some b → ∀ (o n : Nat) (c : Option Nat) (k : Nat), SV.slc (h ++ [Blk.cells [x] true 1]).length 0 k none ≠ .slc j o n c := by
    intro j b hj o n c k he
    have h1 := (List.getElem?_eq_some_iff.1 hj).1
    injection he with h2
    rw [List.length_append] at h2
    omega
  have hsrc : srcCells (h ++ [Blk.cells [x] true 1]) 1 (.slc h.length 0 1 (some 1)) = some (1, [x]) := by
    simp only [srcCells]
    rw [if_neg (by omega), Nat.one_mul, rd_last rfl]; rfl
  rw [hsrc]
  simp only [Option.bind_some]
  rcases ho with ⟨rfl, rfl⟩ | ⟨id, cap, cs, rfl, h1, h2, h3, h4⟩
  · refine ⟨.slc (h ++ [Blk.cells [x] true 1]).length 0 1 none, (h ++ [Blk.cells [x] true 1]) ++ [Blk.cells [x] true 1], ?_, ?_, (he.app _).app _, ?_⟩
    · simp only [appS]
      rw [if_neg (by omega), if_pos (by simpa using hb)]; rfl
    · exact .inr ⟨_, none, [x], rfl, by simp; omega, by rw [List.getElem?_append_right (Nat.le_refl _)]; simp, rfl, Nat.le_refl _⟩
    · exact fun j b hj _ => ⟨mono_app j b (mono_app j b hj), fun o n c => fresh j b hj o n c _⟩
  · have hid : id < h.length := (List.getElem?_eq_some_iff.1 h2).1
    have hg : (h ++ [Blk.cells [x] true 1])[id]? = some (Blk.cells cs true 1) := mono_app id _ h2
    have hlen : vs.length ≤ cs.length := by
      have := congrArg List.length h3
      simp at this
      omega
    have hcut : cut cs 0 (vs.length * 1) = some vs := by
      unfold cut
      rw [if_pos (by omega)]
      simp [h3]
    have base : appS (h ++ [Blk.cells [x] true 1]) 1 bytes (.slc id 0 vs.length cap) 1 [x] = match cap with
        | some c => if c < vs.length + 1 then some (.slc (h ++ [Blk.cells [x] true 1]).length 0 (vs.length + 1) none, (h ++ [Blk.cells [x] true 1]) ++ [Blk.cells (vs ++ [x]) true 1])
          else (writeN (h ++ [Blk.cells [x] true 1]) id (0 + vs.length * 1) [x]).map fun h' => (.slc id 0 (vs.length + 1) (some c), h')
        | none => some (.slc (h ++ [Blk.cells [x] true 1]).length 0 (vs.length + 1) none, (h ++ [Blk.cells [x] true 1]).set id (Blk.dead 1) ++ [Blk.cells (vs ++ [x]) true 1]) := by
      simp only [appS]
      rw [if_neg (by omega), if_pos hb, hg]
      simp only [if_true, ESz.one_n, hcut]
      cases cap <;> rfl
    rw [base]
    cases cap with
    | none =>
      refine ⟨_, _, rfl, ?_, ((he.app _).set h1 _).app _, fun j b hj hs => ?_⟩
      · refine .inr ⟨(h ++ [Blk.cells [x] true 1]).length, none, vs ++ [x], by simp, by simp; omega, ?_, List.take_length, by simp [Room]⟩
        rw [List.getElem?_append_right (by simp)]; simp
      · have hne : id ≠ j := fun e => by subst e; exact hs _ _ _ rfl
        refine ⟨mono_app j b ?_, fun o n c => fresh j b hj o n c _⟩
        rw [List.getElem?_set_ne hne]
        exact mono_app j b hj
    | some c =>
      obtain ⟨h5, h6⟩ := h4
      simp only
      split
      · refine ⟨_, _, rfl, ?_, (he.app _).app _, fun j b hj _ => ⟨mono_app j b (mono_app j b hj), fun o n c => fresh j b hj o n c _⟩⟩
        refine .inr ⟨(h ++ [Blk.cells [x] true 1]).length, none, vs ++ [x], by simp, by simp; omega, ?_, List.take_length, by simp [Room]⟩
        rw [List.getElem?_append_right (Nat.le_refl _)]; simp
      · rename_i hc
        have hw : writeN (h ++ [Blk.cells [x] true 1]) id (0 + vs.length * 1) [x] = some ((h ++ [Blk.cells [x] true 1]).set id (Blk.cells (splice cs (0 + vs.length * 1) [x]) true 1)) := by
          unfold writeN
          rw [hg]
          simp only [List.length_singleton]
          rw [if_pos (by omega)]
        rw [hw]
        have hsp : splice cs (0 + vs.length * 1) [x] = vs ++ [x] ++ cs.drop (vs.length + 1) := by
          unfold splice
          simp [h3]
        refine ⟨_, _, rfl, ?_, (he.app _).set h1 _, fun j b hj hs => ?_⟩
        · refine .inr ⟨id, some c, splice cs (0 + vs.length * 1) [x], by simp, h1, ?_, ?_, ?_⟩
          · rw [List.getElem?_set_self (by simp; omega)]
          · rw [hsp]; exact List.take_left
          · refine ⟨?_, by simp; omega⟩
            rw [hsp]; simp; omega
        · have hne : id ≠ j := fun e => by subst e; exact hs _ _ _ rfl
          refine ⟨?_, fun o n c e => hne (by injection e)⟩
          rw [List.getElem?_set_ne hne]
          exact mono_app j b hj

section
variable {FT : FuncId → Option AFun} {HK : FuncId → Option Hook} {E : Env} {h : Heap} {K : Env → Heap → Prop} {r : List AOp}

/-- append(s, x), as the compiler lays it: a block for x, then append. -/
theorem op_push {h0 : Heap} {s x z : SV} {vs : List SV} {a b bytes : Nat} {ao bo : AO} {zz : List SV} (hx : ev E bo = some (.sc x)) (hs : evS (bindE (some a) (some (.sc (.slc h.length 0 1 (some 1)))) E) ao = some s) (he : Ext h0 h) (ho : Own h0 h s vs) (hb : (vs.length + 1) * (bytes + 1) ≤ bigN)
    (hw : ∀ s' h', Own h0 h' s' (vs ++ [x]) → Ext h0 h' → (∀ (j : Nat) (b : Blk), h[j]? = some b → (∀ o n c, s ≠ .slc j o n c) → h'[j]? = some b ∧ ∀ o n c, s' ≠ .slc j o n c) →
      wOps FT HK r (bindE (some b) (some (.sc s')) (bindE (some a) (some (.sc (.slc h.length 0 1 (some 1)))) E)) h' K) :
    wOps FT HK (⟨some a, .bsl 1 [z] 1 [(0, bo)], none⟩ :: ⟨some b, .app 1 bytes zz ao (.t a), none⟩ :: r) E h K := by
  refine op_ok (v := some (.sc (.slc h.length 0 1 (some 1)))) (h' := h ++ [.cells [x] true 1]) rfl rfl ?_ ?_
  · simp only [step1, ESz.one_n]
    rw [if_pos (by omega)]
    simp [evParts, hx, AV.cells, fillA, rep, splice]
  · obtain ⟨s', h', h1, h2, h3, h4⟩ := push_step (bytes := bytes) (x := x) he ho hb
    refine op_ok (v := some (.sc s')) (h' := h') rfl rfl ?_ (hw s' h' h2 h3 h4)
    simp only [step1, hs, Option.bind_some]
    have h5 : evS (bindE (some a) (some (.sc (.slc h.length 0 1 (some 1)))) E) (.t a) = some (.slc h.length 0 1 (some 1)) := by
      simp [evS, ev, bindE, Env.get]
    rw [h5]
    exact h1
end
end Go.Ab


/- Step by step through a region that draws its order. -/
namespace Go.Ab
set_option linter.unusedVariables false
section
variable {FT : FuncId → Option AFun} {HK : FuncId → Option Hook} {E : Env} {h h' : Heap} {K : Env → Heap → Prop} {r : List (AOp × Nat × Bool)} {Q : Ex → Env → Heap → Prop}

theorem d_one {o : AOp} {i : Nat} {ord : Bool} (hw : wOps FT HK [o] E h (fun E' h' => (ord = true ∨ h'.take h.length = h) ∧ wOpsD FT HK r E' h' K)) : wOpsD FT HK ((o, i, ord) :: r) E h K := hw

/-- Memory is as it was. -/
theorem d_same {E' : Env} {ord : Bool} (hw : wOpsD FT HK r E' h K) : wOps FT HK [] E' h (fun E' h' => (ord = true ∨ h'.take h.length = h) ∧ wOpsD FT HK r E' h' K) := ⟨.inr (List.take_length), hw⟩

theorem Ext.take {a b : Heap} (he : Ext a b) : b.take a.length = a := by
  obtain ⟨t, rfl⟩ := he
  exact List.take_left

/-- Memory has grown. -/
theorem d_ext {E' : Env} {ord : Bool} (he : Ext h h') (hw : wOpsD FT HK r E' h' K) : wOps FT HK [] E' h' (fun E' h' => (ord = true ∨ h'.take h.length = h) ∧ wOpsD FT HK r E' h' K) := ⟨.inr he.take, hw⟩

/-- It is ordered against all others. -/
theorem d_ord {E' : Env} (hw : wOpsD FT HK r E' h' K) : wOps FT HK [] E' h' (fun E' h' => (true = true ∨ h'.take h.length = h) ∧ wOpsD FT HK r E' h' K) := ⟨.inl rfl, hw⟩

theorem w_opsD {ops : List (AOp × Nat × Bool)} {ks : List Nat} (hw : wOpsD FT HK ops E h (fun E' h' => Q .nm (E'.keep ks) h')) : wA FT HK (.regd ops ks) E h Q := hw
theorem w_endD {ks : List Nat} {E' : Env} (hk : E.keep ks = E') (hq : Q .nm E' h) : wOpsD FT HK [] E h (fun E' h' => Q .nm (E'.keep ks) h') := by
  subst hk; exact hq
theorem keep_n {k : Nat} {ks : List Nat} {F : Env} (h1 : E.get k = none) (h2 : E.keep ks = F) : E.keep (k :: ks) = (k, none) :: F := by
  rw [keep_cons, h1, h2]
end
end Go.Ab

