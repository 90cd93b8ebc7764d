/- Each operation does in the model what it does here: memory made. -/
import Derived.Test.YtadelcikpkhclaaDoorAb6
namespace Go.Ab
set_option linter.unusedVariables false
variable {P : Program} {β : Bt} {E : Env} {h : Heap} {w : World} {a : Act}

def fresh (β : Bt) (h h' : Heap) : Prop := ∀ id, h.length ≤ id → id < h'.length → β id = none

theorem fresh.one {b : Blk} (hf : fresh β h (h ++ [b])) : β h.length = none := hf h.length (Nat.le_refl _) (by simp)

theorem zeroIs_some {t : TypeId} {zero : List SV} (h : zeroIs P t zero = true) : ∃ i z, P.info? t = some i ∧ i.zero = some z ∧ okCells zero z.cells.toList = true := by
  unfold zeroIs at h
  split at h
  · rename_i i hi
    split at h
    · exact ⟨i, _, hi, by assumption, h⟩
    · simp at h
  · simp at h

theorem alloc_out {cs : List SV} {esz : ESz} (R : Rep β h w) (hf : fresh β h (h ++ [Blk.cells cs true esz])) {ws : List Value} (e : TypeId) (ht : TyOk esz e) (hr : F2 (SRel β) cs ws) :
    ∃ L : Loc, L.b = w.heap.size ∧ L.base = 0 ∧ L.sz = ws.length ∧ L.esz = esz ∧ Stp β h w (upd β h.length L) (h ++ [.cells cs true esz]) (w.alloc (.cells ws.toArray e)) ∧
      Rep (upd β h.length L) (h ++ [.cells cs true esz]) (w.alloc (.cells ws.toArray e)) := by
  obtain ⟨h1, h2⟩ := alloc_done R hf.one ws.toArray e cs esz ht (fun _ => by simp [hr.length]) (by simp [hr.length]) (fun i v hi => by
    obtain ⟨c, q1, q2⟩ := hr.get hi
    exact ⟨c, by simpa using q1, q2⟩)
  exact ⟨_, rfl, rfl, by simp, rfl, h1, h2⟩

theorem ptr_new {L : Loc} (h1 : L.b = w.heap.size) (h2 : L.base = 0) : SRel (upd β h.length L) (.ptr h.length 0) (.pointer (some ⟨w.heap.size, 0, none⟩)) := by
  have := SRel.ptr (off := 0) (upd_same β h.length L)
  rwa [h1, h2] at this

theorem s_new {zero : List SV} {o : Oper} {v : Option AV} {h' : Heap} (hok : okOp P (.new zero) o.op = true) (hE : ERel β E a.tmps) (R : Rep β h w) (hf : fresh β h h')
    (hs : step1 E h (.new zero) = some (v, h')) : Out1 β h w ((execOp a.eval o).run P w) v h' := by
  cases hop : o.op <;> rw [hop] at hok <;> simp [okOp] at hok
  rename_i t
  obtain ⟨i, z, hi, hz, hc⟩ := zeroIs_some hok
  simp [step1] at hs
  obtain ⟨rfl, rfl⟩ := hs
  obtain ⟨L, l1, l2, l3, l4, q1, q2⟩ := alloc_out R hf t (fun _ h => by cases h) (okCells_rel hc)
  refine ⟨_, _, q1, q2, _, ?_, .sc (ptr_new l1 l2)⟩
  simp [execOp, hop, Instr.alloc, zeroValue, typeInfo, hi, hz, newVar, newRow]

theorem s_newT {ty : Nat} {zero : List SV} {o : Oper} {v : Option AV} {h' : Heap} (hok : okOp P (.newT ty zero) o.op = true) (hE : ERel β E a.tmps) (R : Rep β h w) (hf : fresh β h h')
    (hs : step1 E h (.newT ty zero) = some (v, h')) : Out1 β h w ((execOp a.eval o).run P w) v h' := by
  cases hop : o.op <;> rw [hop] at hok <;> simp [okOp] at hok
  rename_i t
  obtain ⟨rfl, hok⟩ := hok
  obtain ⟨i, z, hi, hz, hc⟩ := zeroIs_some hok
  simp [step1] at hs
  obtain ⟨rfl, rfl⟩ := hs
  obtain ⟨L, l1, l2, l3, l4, q1, q2⟩ := alloc_out R hf ty (fun _ h => by cases h; rfl) (okCells_rel hc)
  refine ⟨_, _, q1, q2, _, ?_, .sc (ptr_new l1 l2)⟩
  simp [execOp, hop, Instr.alloc, zeroValue, typeInfo, hi, hz, newVar, newRow]

theorem tyIs_ok {esz : ESz} {e : TypeId} (h : tyIs esz.ty e = true) : TyOk esz e := by
  intro t ht
  rw [ht] at h
  simpa [tyIs] using h
theorem eszOk_pos {esz : ESz} (h : eszOk esz = true) : 1 ≤ esz.n := by
  have : esz.n ≠ 0 := by simpa [eszOk] using h
  omega
theorem eszOk_ne {esz : ESz} (h : eszOk esz = true) : esz.n ≠ 0 := by
  simpa [eszOk] using h

theorem s_box {x : AO} {o : Oper} {v : Option AV} {h' : Heap} (hok : okOp P (.box x) o.op = true) (hE : ERel β E a.tmps) (R : Rep β h w) (hf : fresh β h h')
    (hs : step1 E h (.box x) = some (v, h')) : Out1 β h w ((execOp a.eval o).run P w) v h' := by
  cases hop : o.op <;> rw [hop] at hok <;> simp [okOp] at hok
  rename_i t x'
  simp only [step1, Option.bind_eq_some_iff, Option.map_eq_some_iff, Prod.mk.injEq] at hs
  obtain ⟨u, hu, cs, hc, rfl, rfl⟩ := hs
  have r := ev_rel hok hE hu
  obtain ⟨ws, e1, e2⟩ := r.cells hc
  obtain ⟨L, l1, l2, l3, l4, q1, q2⟩ := alloc_out R hf t (fun _ h => by cases h) e2
  refine ⟨_, _, q1, q2, _, ?_, .sc (ptr_new l1 l2)⟩
  simp [execOp, hop, Instr.box, newVar, newRow, e1]

/-- The parts of an aggregate laid in place. -/
theorem fill_step {cs cs' : List SV} {ws us : List Value} {off : Nat} (hr : F2 (SRel β) cs ws) (hv : F2 (SRel β) cs' us) (hl : off + cs'.length ≤ cs.length) :
    ∃ ws', us.toArray.zipIdx.foldl (fun (cs : Array Value) (p : Value × Nat) => cs.setIfInBounds (off + p.2) p.1) ws.toArray = ws'.toArray ∧ F2 (SRel β) (splice cs off cs') ws' := by
  have key : ∀ (us : List Value) (k : Nat) (ws : List Value), off + k + us.length ≤ ws.length →
      (us.zipIdx k).foldl (fun (cs : Array Value) (p : Value × Nat) => cs.setIfInBounds (off + p.2) p.1) ws.toArray = (ws.take (off + k) ++ us ++ ws.drop (off + k + us.length)).toArray := by
    intro us
    induction us with
    | nil => intro k ws _; simp
    | cons u us ih =>
      intro k ws hl
      simp only [List.zipIdx_cons, List.foldl_cons]
      rw [List.setIfInBounds_toArray, ih (k + 1) (ws.set (off + k) u) (by simp at hl ⊢; omega)]
      congr 1
      have := list_seg_step ws (off + k) u us (by simp at hl; omega)
      simpa [Nat.add_assoc] using this
  have hlen := hv.length
  have hlen2 := hr.length
  refine ⟨ws.take off ++ us ++ ws.drop (off + us.length), ?_, ?_⟩
  · have := key us 0 ws (by omega)
    simp only [Nat.add_zero] at this
    rw [← this, ← Array.foldl_toList]
    simp
  · unfold splice
    rw [hlen]
    exact ((hr.take _).append hv).append (hr.drop _)

theorem fillA_len : ∀ {ps : List (Nat × Nat × List SV)} {cs out : List SV}, fillA cs ps = some out → out.length = cs.length
  | [], cs, out, h => by simp [fillA] at h; subst h; rfl
  | (o, s, vs) :: ps, cs, out, h => by
    simp only [fillA] at h
    split at h
    · rename_i hc
      rw [fillA_len h, splice_len _ _ _ (by omega)]
    · simp at h

theorem fill_run (place : Nat → Option (Nat × Nat)) : ∀ {ps : List (Nat × Nat × List SV)} {qs : List (Nat × Value)} {cs out : List SV} {ws : List Value}, F2 (SRel β) cs ws →
    F2 (fun (p : Nat × Nat × List SV) (q : Nat × Value) => place q.1 = some (p.1, p.2.1) ∧ ∃ us : List Value, q.2.cells = us.toArray ∧ F2 (SRel β) p.2.2 us) ps qs →
    fillA cs ps = some out → ∃ ws', Instr.fill place ws.toArray qs = some ws'.toArray ∧ F2 (SRel β) out ws'
  | [], qs, cs, out, ws, hr, hp, h => by
    cases hp
    simp [fillA] at h; subst h
    exact ⟨ws, rfl, hr⟩
  | (o, s, vs) :: ps, qs, cs, out, ws, hr, hp, h => by
    cases hp with
    | cons h1 h2 =>
      rename_i q qs
      obtain ⟨qi, qv⟩ := q
      obtain ⟨hpl, us, hu, hvu⟩ := h1
      simp only [fillA] at h
      split at h
      · rename_i hc
        obtain ⟨rfl, hc⟩ := hc
        obtain ⟨ws1, e1, e2⟩ := fill_step hr hvu hc
        obtain ⟨ws', e3, e4⟩ := fill_run place e2 h2 h
        refine ⟨ws', ?_, e4⟩
        have l1 : vs.length = us.length := hvu.length
        have l2 := hr.length
        simp only at hpl hu
        simp only [Instr.fill, hpl, hu]
        have hcond : ¬ (us.toArray.size ≠ vs.length ∨ o + us.toArray.size > ws.toArray.size) := by simp; omega
        simp only [Bool.or_eq_true, decide_eq_true_eq, hcond, if_false]
        rw [e1]
        exact e3
      · simp at h

theorem evParts_rel (f : Nat × Operand → Nat × Nat × AO → Prop) : ∀ {ps : List (Nat × Nat × AO)} {qs : List (Nat × Operand)} {out : List (Nat × Nat × List SV)} (hE : ERel β E a.tmps),
    F2 (fun p q => f q p ∧ okO p.2.2 q.2 = true) ps qs → evParts E ps = some out →
    F2 (fun (p : Nat × Nat × List SV) (q : Nat × Value) => (∃ x y, f (q.1, y) (p.1, p.2.1, x)) ∧ ∃ us : List Value, q.2.cells = us.toArray ∧ F2 (SRel β) p.2.2 us) out (qs.map fun q => (q.1, a.eval q.2))
  | [], qs, out, hE, hp, h => by
    cases hp
    simp [evParts] at h; subst h; exact .nil
  | (o, s, x) :: ps, qs, out, hE, hp, h => by
    cases hp with
    | cons h1 h2 =>
      rename_i q qs
      simp only [evParts, Option.bind_eq_some_iff, Option.map_eq_some_iff] at h
      obtain ⟨u, hu, cs, hc, r, hr, rfl⟩ := h
      obtain ⟨us, e1, e2⟩ := (ev_rel h1.2 hE hu).cells hc
      exact .cons ⟨⟨x, q.2, h1.1⟩, us, e1, e2⟩ (evParts_rel f hE h2 hr)

theorem okBld_rel {fs : Array Field} : ∀ {ps : List (Nat × Nat × AO)} {qs : List (Nat × Operand)}, okBld P fs ps qs = true →
    F2 (fun p q => (∃ fd, fs[q.1]? = some fd ∧ fd.offset = p.1 ∧ szIs P fd.type p.2.1 = true) ∧ okO p.2.2 q.2 = true) ps qs
  | [], [], _ => .nil
  | (o, s, x) :: ps, (i, y) :: qs, h => by
    simp [okBld] at h
    obtain ⟨⟨h1, h2⟩, h3⟩ := h
    split at h1
    · rename_i fd hfd
      simp at h1
      exact .cons ⟨⟨fd, hfd, h1.1, h1.2⟩, h2⟩ (okBld_rel h3)
    · simp at h1
  | [], _ :: _, h => by simp [okBld] at h
  | _ :: _, [], h => by simp [okBld] at h

theorem okArr_rel {n : Nat} : ∀ {ps : List (Nat × Nat × AO)} {qs : List (Nat × Operand)}, okArr n ps qs = true →
    F2 (fun p q => (p.1 = q.1 * n ∧ p.2.1 = n) ∧ okO p.2.2 q.2 = true) ps qs
  | [], [], _ => .nil
  | (o, s, x) :: ps, (i, y) :: qs, h => by
    simp [okArr] at h
    obtain ⟨⟨⟨h1, h2⟩, h3⟩, h4⟩ := h
    exact .cons ⟨⟨h1, h2⟩, h3⟩ (okArr_rel h4)
  | [], _ :: _, h => by simp [okArr] at h
  | _ :: _, [], h => by simp [okArr] at h

theorem okSl_rel {n : Nat} : ∀ {ps : List (Nat × AO)} {qs : List (Nat × Operand)}, okSl ps qs = true →
    F2 (fun p q => (p.1 = q.1 * n ∧ p.2.1 = n) ∧ okO p.2.2 q.2 = true) (ps.map fun p => (p.1 * n, n, p.2)) qs
  | [], [], _ => .nil
  | (o, x) :: ps, (i, y) :: qs, h => by
    simp [okSl] at h
    obtain ⟨⟨h1, h2⟩, h3⟩ := h
    subst h1
    exact .cons ⟨⟨rfl, rfl⟩, h2⟩ (okSl_rel h3)
  | [], _ :: _, h => by simp [okSl] at h
  | _ :: _, [], h => by simp [okSl] at h

theorem places_run : ∀ (l : List Field), (∀ fd ∈ l, (P.info? fd.type).isSome = true) → ∀ w : World,
    ∃ r : List (Nat × Nat), (l.mapM fun f => (do pure (f.offset, ← sizeOf f.type) : Sem (Nat × Nat))).run P w = .ok r w ∧
      ∀ (i : Nat) (fd : Field) (n : Nat), l[i]? = some fd → szIs P fd.type n = true → r[i]? = some (fd.offset, n)
  | [], _, w => ⟨[], by simp, by simp⟩
  | f :: l, hall, w => by
    obtain ⟨r, e1, e2⟩ := places_run l (fun fd hfd => hall fd (by simp [hfd])) w
    have hf := hall f (by simp)
    obtain ⟨i, hi⟩ := Option.isSome_iff_exists.1 hf
    refine ⟨(f.offset, i.size) :: r, ?_, ?_⟩
    · have hsz : (sizeOf f.type).run P w = .ok i.size w := by simp [sizeOf, typeInfo, hi]
      rw [List.mapM_cons]
      simp only [Sem.run_bind, hsz, Result.andThen_ok, Sem.run_pure, e1]
    · intro k fd n hk hn
      cases k with
      | zero => simp at hk; subst hk; simp [szIs, hi] at hn; simp [hn]
      | succ k => simpa using e2 k fd n (by simpa using hk) hn

theorem s_bld {zero : List SV} {parts : List (Nat × Nat × AO)} {o : Oper} {v : Option AV} {h' : Heap} (hok : okOp P (.bld zero parts) o.op = true) (hE : ERel β E a.tmps) (R : Rep β h w)
    (hs : step1 E h (.bld zero parts) = some (v, h')) : Out1 β h w ((execOp a.eval o).run P w) v h' := by
  cases hop : o.op <;> rw [hop] at hok <;> simp only [okOp, Bool.and_eq_true, Bool.false_eq_true] at hok
  rename_i t parts'
  obtain ⟨k1, k2⟩ := hok
  obtain ⟨ti, z, hi, hz, hc⟩ := zeroIs_some k1
  have hzr := okCells_rel (β := β) hc
  have hza : z.cells = z.cells.toList.toArray := by simp
  simp only [step1, Option.bind_eq_some_iff, Option.map_eq_some_iff, Prod.mk.injEq] at hs
  obtain ⟨ps, hps, cs, hfill, rfl, rfl⟩ := hs
  split at k2
  · rename_i fs hu
    simp only [Bool.and_eq_true] at k2
    obtain ⟨k3, k4⟩ := k2
    obtain ⟨r, e1, e2⟩ := places_run (P := P) fs.toList (by simp only [okFields, List.all_eq_true] at k3; exact k3) w
    have hp := evParts_rel (a := a) (fun q p => ∃ fd, fs[q.1]? = some fd ∧ fd.offset = p.1 ∧ szIs P fd.type p.2.1 = true) hE (okBld_rel k4) hps
    obtain ⟨ws, e3, e4⟩ := fill_run (fun i => r.toArray[i]?) hzr (hp.mono fun p q ⟨⟨x, y, fd, f1, f2, f3⟩, rest⟩ => ⟨by
      have := e2 q.1 fd p.2.1 (by simpa using f1) f3
      simp only at f2
      simp [this, f2], rest⟩) hfill
    refine out_pure R ?_ (.agg e4)
    have e1' : (fs.mapM fun f => (do pure (f.offset, ← sizeOf f.type) : Sem (Nat × Nat))).run P w = .ok r.toArray w := by
      rw [Array.mapM_eq_mapM_toList]; simp only [Sem.run_map, e1, Result.andThen_ok]
    simp only [execOp, hop, Instr.build, Sem.run_bind, zeroValue, typeInfo, run_program, hi, hz, Sem.run_pure, Result.andThen_ok, run_und hu, e1']
    rw [hza] 
    have e3' : Instr.fill (fun i => r.toArray[i]?) z.cells.toList.toArray (parts'.map fun (q : Nat × Operand) => (q.1, a.eval q.2)).toList = some ws.toArray := by
      rw [← e3]; simp
    simp only [e3']
    simp
  · rename_i n e hu
    split at k2
    · rename_i ei hei
      have hp := evParts_rel (a := a) (fun q p => p.1 = q.1 * ei.size ∧ p.2.1 = ei.size) hE (okArr_rel k2) hps
      obtain ⟨ws, e3, e4⟩ := fill_run (fun i => some (i * ei.size, ei.size)) hzr (hp.mono fun p q ⟨⟨x, y, f1, f2⟩, rest⟩ => ⟨by
        simp only at f1 f2; simp [f1, f2], rest⟩) hfill
      refine out_pure R ?_ (.agg e4)
      simp only [execOp, hop, Instr.build, Sem.run_bind, zeroValue, sizeOf, typeInfo, run_program, hi, hz, hei, Sem.run_pure, Result.andThen_ok, run_und hu]
      rw [hza]
      have e3' : Instr.fill (fun i => some (i * ei.size, ei.size)) z.cells.toList.toArray (parts'.map fun (q : Nat × Operand) => (q.1, a.eval q.2)).toList = some ws.toArray := by
        rw [← e3]; simp
      simp only [e3']
      simp
    · simp at k2
  · simp at k2

end Go.Ab
