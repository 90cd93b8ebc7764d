import Derived.Test.YtleoalcbgpjieaaDoorAb6
/- Each operation does in the model what it does here: memory made. -/
namespace Go.Ab
variable [Base]
set_option linter.unusedSectionVars false
set_option linter.unusedVariables false
variable {P : Program} {β : Bt} {E : Env} {h : Heap} {w : World} {a : Act}

def fresh (β : Bt) (h h' : Heap) : Prop := ∀ id, h.length ≤ id → id < h'.length → β id = none

theorem fresh.one {b : Blk} (hf : fresh β h (h ++ [b])) : β h.length = none := hf h.length (Nat.le_refl _) (by simp)

theorem zeroIs_some {t : TypeId} {zero : List SV} (h : zeroIs P t zero = true) : ∃ i z, P.info? t = some i ∧ i.zero = some z ∧ okCells zero z.cells.toList = true := by
  unfold zeroIs at h
  split at h
  · rename_i i hi
    split at h
    · exact ⟨i, _, hi, by assumption, h⟩
    · simp at h
  · simp at h

theorem alloc_out {cs : List SV} {esz : ESz} (R : Rep β h w) (hf : fresh β h (h ++ [Blk.cells cs true esz])) {ws : List Value} (e : TypeId) (ht : TyOk esz e) (hp : esz.n < 1000000) (hr : F2 (SRel β) cs ws) :
    ∃ L : Loc, L.b = w.heap.size ∧ L.base = 0 ∧ L.sz = ws.length ∧ L.esz = esz ∧ Stp β h w (upd β h.length L) (h ++ [.cells cs true esz]) (w.alloc (.cells ws.toArray e)) ∧
      Rep (upd β h.length L) (h ++ [.cells cs true esz]) (w.alloc (.cells ws.toArray e)) := by
  obtain ⟨h1, h2⟩ := alloc_done R hf.one ws.toArray e cs esz ht hp (fun _ => by simp [hr.length]) (by simp [hr.length]) (fun i v hi => by
    obtain ⟨c, q1, q2⟩ := hr.get hi
    exact ⟨c, by simpa using q1, q2⟩)
  exact ⟨_, rfl, rfl, by simp, rfl, h1, h2⟩

theorem ptr_new {L : Loc} (h1 : L.b = w.heap.size) (h2 : L.base = 0) (hn : L.esz.n < 1000000) : SRel (upd β h.length L) (.ptr h.length 0) (.pointer (some ⟨w.heap.size, 0, none⟩)) := by
  have := SRel.ptr (off := 0) (upd_same β h.length L) hn
  rwa [h1, h2] at this

theorem s_new {zero : List SV} {o : Oper} {v : Option AV} {h' : Heap} (hok : okOp P (.new zero) o.op = true) (hE : ERel β E a.tmps) (R : Rep β h w) (hf : fresh β h h')
    (hs : step1 E h (.new zero) = some (v, h')) : Out1 β h w ((execOp a.eval o).run P w) v h' := by
  cases hop : o.op <;> rw [hop] at hok <;> simp [okOp] at hok
  rename_i t
  obtain ⟨i, z, hi, hz, hc⟩ := zeroIs_some hok
  simp [step1] at hs
  obtain ⟨rfl, rfl⟩ := hs
  obtain ⟨L, l1, l2, l3, l4, q1, q2⟩ := alloc_out R hf t (fun _ h => by cases h) (by decide) (okCells_rel hc)
  refine ⟨_, _, q1, q2, _, ?_, .sc (ptr_new l1 l2 (by rw [l4]; exact (show 0 < 1000000 by decide)))⟩
  simp [execOp, hop, Instr.alloc, zeroValue, typeInfo, hi, hz, newVar, newRow]

theorem s_newT {ty : Nat} {zero : List SV} {o : Oper} {v : Option AV} {h' : Heap} (hok : okOp P (.newT ty zero) o.op = true) (hE : ERel β E a.tmps) (R : Rep β h w) (hf : fresh β h h')
    (hs : step1 E h (.newT ty zero) = some (v, h')) : Out1 β h w ((execOp a.eval o).run P w) v h' := by
  cases hop : o.op <;> rw [hop] at hok <;> simp [okOp] at hok
  rename_i t
  obtain ⟨rfl, hok⟩ := hok
  obtain ⟨i, z, hi, hz, hc⟩ := zeroIs_some hok
  simp [step1] at hs
  obtain ⟨rfl, rfl⟩ := hs
  obtain ⟨L, l1, l2, l3, l4, q1, q2⟩ := alloc_out R hf ty (fun _ h => by cases h; rfl) (show 0 < 1000000 by decide) (okCells_rel hc)
  refine ⟨_, _, q1, q2, _, ?_, .sc (ptr_new l1 l2 (by rw [l4]; exact (show 0 < 1000000 by decide)))⟩
  simp [execOp, hop, Instr.alloc, zeroValue, typeInfo, hi, hz, newVar, newRow]

theorem tyIs_ok {esz : ESz} {e : TypeId} (h : tyIs esz.ty e = true) : TyOk esz e := by
  intro t ht
  rw [ht] at h
  simpa [tyIs] using h
theorem eszOk_both {esz : ESz} (h : eszOk esz = true) : esz.n ≠ 0 ∧ esz.n < 1000000 := by simpa [eszOk] using h
theorem eszOk_pos {esz : ESz} (h : eszOk esz = true) : 1 ≤ esz.n := by
  have := (eszOk_both h).1
  omega
theorem eszOk_ne {esz : ESz} (h : eszOk esz = true) : esz.n ≠ 0 := (eszOk_both h).1
theorem eszOk_rng {esz : ESz} (h : eszOk esz = true) : 1 ≤ esz.n ∧ esz.n < 1000000 := ⟨eszOk_pos h, (eszOk_both h).2⟩
theorem eszOk_low {esz : ESz} (h : eszOk esz = true) : esz.n < 1000000 := (eszOk_both h).2

theorem s_box {x : AO} {o : Oper} {v : Option AV} {h' : Heap} (hok : okOp P (.box x) o.op = true) (hE : ERel β E a.tmps) (R : Rep β h w) (hf : fresh β h h')
    (hs : step1 E h (.box x) = some (v, h')) : Out1 β h w ((execOp a.eval o).run P w) v h' := by
  cases hop : o.op <;> rw [hop] at hok <;> simp [okOp] at hok
  rename_i t x'
  simp only [step1, Option.bind_eq_some_iff, Option.map_eq_some_iff, Prod.mk.injEq] at hs
  obtain ⟨u, hu, cs, hc, rfl, rfl⟩ := hs
  have r := ev_rel hok hE hu
  obtain ⟨ws, e1, e2⟩ := r.cells hc
  obtain ⟨L, l1, l2, l3, l4, q1, q2⟩ := alloc_out R hf t (fun _ h => by cases h) (by decide) e2
  refine ⟨_, _, q1, q2, _, ?_, .sc (ptr_new l1 l2 (by rw [l4]; exact (show 0 < 1000000 by decide)))⟩
  simp [execOp, hop, Instr.box, newVar, newRow, e1]

/-- The parts of an aggregate laid in place. -/
theorem fill_step {cs cs' : List SV} {ws us : List Value} {off : Nat} (hr : F2 (SRel β) cs ws) (hv : F2 (SRel β) cs' us) (hl : off + cs'.length ≤ cs.length) :
    ∃ ws', us.toArray.zipIdx.foldl (fun (cs : Array Value) (p : Value × Nat) => cs.setIfInBounds (off + p.2) p.1) ws.toArray = ws'.toArray ∧ F2 (SRel β) (splice cs off cs') ws' := by
  have key : ∀ (us : List Value) (k : Nat) (ws : List Value), off + k + us.length ≤ ws.length →
      (us.zipIdx k).foldl (fun (cs : Array Value) (p : Value × Nat) => cs.setIfInBounds (off + p.2) p.1) ws.toArray = (ws.take (off + k) ++ us ++ ws.drop (off + k + us.length)).toArray := by
    intro us
    induction us with
    | nil => intro k ws _; simp
    | cons u us ih =>
      intro k ws hl
      simp only [List.zipIdx_cons, List.foldl_cons]
      rw [List.setIfInBounds_toArray, ih (k + 1) (ws.set (off + k) u) (by simp at hl ⊢; omega)]
      congr 1
      have := list_seg_step ws (off + k) u us (by simp at hl; omega)
      simpa [Nat.add_assoc] using this
  have hlen := hv.length
  have hlen2 := hr.length
  refine ⟨ws.take off ++ us ++ ws.drop (off + us.length), ?_, ?_⟩
  · have := key us 0 ws (by omega)
    simp only [Nat.add_zero] at this
    rw [← this, ← Array.foldl_toList]
    simp
  · unfold splice
    rw [hlen]
    exact ((hr.take _).append hv).append (hr.drop _)

theorem fillA_len : ∀ {ps : List (Nat × Nat × List SV)} {cs out : List SV}, fillA cs ps = some out → out.length = cs.length
  | [], cs, out, h => by simp [fillA] at h; subst h; rfl
  | (o, s, vs) :: ps, cs, out, h => by
    simp only [fillA] at h
    split at h
    · rename_i hc
      rw [fillA_len h, splice_len _ _ _ (by omega)]
    · simp at h

theorem fill_run (place : Nat → Option (Nat × Nat)) : ∀ {ps : List (Nat × Nat × List SV)} {qs : List (Nat × Value)} {cs out : List SV} {ws : List Value}, F2 (SRel β) cs ws →
    F2 (fun (p : Nat × Nat × List SV) (q : Nat × Value) => place q.1 = some (p.1, p.2.1) ∧ ∃ us : List Value, q.2.cells = us.toArray ∧ F2 (SRel β) p.2.2 us) ps qs →
    fillA cs ps = some out → ∃ ws', Instr.fill place ws.toArray qs = some ws'.toArray ∧ F2 (SRel β) out ws'
  | [], qs, cs, out, ws, hr, hp, h => by
    cases hp
    simp [fillA] at h; subst h
    exact ⟨ws, rfl, hr⟩
  | (o, s, vs) :: ps, qs, cs, out, ws, hr, hp, h => by
    cases hp with
    | cons h1 h2 =>
      rename_i q qs
      obtain ⟨qi, qv⟩ := q
      obtain ⟨hpl, us, hu, hvu⟩ := h1
      simp only [fillA] at h
      split at h
      · rename_i hc
        obtain ⟨rfl, hc⟩ := hc
        obtain ⟨ws1, e1, e2⟩ := fill_step hr hvu hc
        obtain ⟨ws', e3, e4⟩ := fill_run place e2 h2 h
        refine ⟨ws', ?_, e4⟩
        have l1 : vs.length = us.length := hvu.length
        have l2 := hr.length
        simp only at hpl hu
        simp only [Instr.fill, hpl, hu]
        have hcond : ¬ (us.toArray.size ≠ vs.length ∨ o + us.toArray.size > ws.toArray.size) := by simp; omega
        simp only [Bool.or_eq_true, decide_eq_true_eq, hcond, if_false]
        rw [e1]
        exact e3
      · simp at h

theorem evParts_rel (f : Nat × Operand → Nat × Nat × AO → Prop) : ∀ {ps : List (Nat × Nat × AO)} {qs : List (Nat × Operand)} {out : List (Nat × Nat × List SV)} (hE : ERel β E a.tmps),
    F2 (fun p q => f q p ∧ okO p.2.2 q.2 = true) ps qs → evParts E ps = some out →
    F2 (fun (p : Nat × Nat × List SV) (q : Nat × Value) => (∃ x y, f (q.1, y) (p.1, p.2.1, x)) ∧ ∃ us : List Value, q.2.cells = us.toArray ∧ F2 (SRel β) p.2.2 us) out (qs.map fun q => (q.1, a.eval q.2))
  | [], qs, out, hE, hp, h => by
    cases hp
    simp [evParts] at h; subst h; exact .nil
  | (o, s, x) :: ps, qs, out, hE, hp, h => by
    cases hp with
    | cons h1 h2 =>
      rename_i q qs
      simp only [evParts, Option.bind_eq_some_iff, Option.map_eq_some_iff] at h
      obtain ⟨u, hu, cs, hc, r, hr, rfl⟩ := h
      obtain ⟨us, e1, e2⟩ := (ev_rel h1.2 hE hu).cells hc
      exact .cons ⟨⟨x, q.2, h1.1⟩, us, e1, e2⟩ (evParts_rel f hE h2 hr)

theorem okBld_rel {fs : Array Field} : ∀ {ps : List (Nat × Nat × AO)} {qs : List (Nat × Operand)}, okBld P fs ps qs = true →
    F2 (fun p q => (∃ fd, fs[q.1]? = some fd ∧ fd.offset = p.1 ∧ szIs P fd.type p.2.1 = true) ∧ okO p.2.2 q.2 = true) ps qs
  | [], [], _ => .nil
  | (o, s, x) :: ps, (i, y) :: qs, h => by
    simp [okBld] at h
    obtain ⟨⟨h1, h2⟩, h3⟩ := h
    split at h1
    · rename_i fd hfd
      simp at h1
      exact .cons ⟨⟨fd, hfd, h1.1, h1.2⟩, h2⟩ (okBld_rel h3)
    · simp at h1
  | [], _ :: _, h => by simp [okBld] at h
  | _ :: _, [], h => by simp [okBld] at h

theorem okArr_rel {n : Nat} : ∀ {ps : List (Nat × Nat × AO)} {qs : List (Nat × Operand)}, okArr n ps qs = true →
    F2 (fun p q => (p.1 = q.1 * n ∧ p.2.1 = n) ∧ okO p.2.2 q.2 = true) ps qs
  | [], [], _ => .nil
  | (o, s, x) :: ps, (i, y) :: qs, h => by
    simp [okArr] at h
    obtain ⟨⟨⟨h1, h2⟩, h3⟩, h4⟩ := h
    exact .cons ⟨⟨h1, h2⟩, h3⟩ (okArr_rel h4)
  | [], _ :: _, h => by simp [okArr] at h
  | _ :: _, [], h => by simp [okArr] at h

theorem okSl_rel {n : Nat} : ∀ {ps : List (Nat × AO)} {qs : List (Nat × Operand)}, okSl ps qs = true →
    F2 (fun p q => (p.1 = q.1 * n ∧ p.2.1 = n) ∧ okO p.2.2 q.2 = true) (ps.map fun p => (p.1 * n, n, p.2)) qs
  | [], [], _ => .nil
  | (o, x) :: ps, (i, y) :: qs, h => by
    simp [okSl] at h
    obtain ⟨⟨h1, h2⟩, h3⟩ := h
    subst h1
    exact .cons ⟨⟨rfl, rfl⟩, h2⟩ (okSl_rel h3)
  | [], _ :: _, h => by simp [okSl] at h
  | _ :: _, [], h => by simp [okSl] at h

theorem places_run : ∀ (l : List Field), (∀ fd ∈ l, (P.info? fd.type).isSome = true) → ∀ w : World,
    ∃ r : List (Nat × Nat), (l.mapM fun f => (do pure (f.offset, ← sizeOf f.type) : Sem (Nat × Nat))).run P w = .ok r w ∧
      ∀ (i : Nat) (fd : Field) (n : Nat), l[i]? = some fd → szIs P fd.type n = true → r[i]? = some (fd.offset, n)
  | [], _, w => ⟨[], by simp, by simp⟩
  | f :: l, hall, w => by
    obtain ⟨r, e1, e2⟩ := places_run l (fun fd hfd => hall fd (by simp [hfd])) w
    have hf := hall f (by simp)
    obtain ⟨i, hi⟩ := Option.isSome_iff_exists.1 hf
    refine ⟨(f.offset, i.size) :: r, ?_, ?_⟩
    · have hsz : (sizeOf f.type).run P w = .ok i.size w := by simp [sizeOf, typeInfo, hi]
      rw [List.mapM_cons]
      simp only [Sem.run_bind, hsz, Result.andThen_ok, Sem.run_pure, e1]
    · intro k fd n hk hn
      cases k with
      | zero => simp at hk; subst hk; simp [szIs, hi] at hn; simp [hn]
      | succ k => simpa using e2 k fd n (by simpa using hk) hn

theorem s_bld {zero : List SV} {parts : List (Nat × Nat × AO)} {o : Oper} {v : Option AV} {h' : Heap} (hok : okOp P (.bld zero parts) o.op = true) (hE : ERel β E a.tmps) (R : Rep β h w)
    (hs : step1 E h (.bld zero parts) = some (v, h')) : Out1 β h w ((execOp a.eval o).run P w) v h' := by
  cases hop : o.op <;> rw [hop] at hok <;> simp only [okOp, Bool.and_eq_true, Bool.false_eq_true] at hok
  rename_i t parts'
  obtain ⟨k1, k2⟩ := hok
  obtain ⟨ti, z, hi, hz, hc⟩ := zeroIs_some k1
  have hzr := okCells_rel (β := β) hc
  have hza : z.cells = z.cells.toList.toArray := by simp
  simp only [step1, Option.bind_eq_some_iff, Option.map_eq_some_iff, Prod.mk.injEq] at hs
  obtain ⟨ps, hps, cs, hfill, rfl, rfl⟩ := hs
  split at k2
  · rename_i fs hu
    simp only [Bool.and_eq_true] at k2
    obtain ⟨k3, k4⟩ := k2
    obtain ⟨r, e1, e2⟩ := places_run (P := P) fs.toList (by simp only [okFields, List.all_eq_true] at k3; exact k3) w
    have hp := evParts_rel (a := a) (fun q p => ∃ fd, fs[q.1]? = some fd ∧ fd.offset = p.1 ∧ szIs P fd.type p.2.1 = true) hE (okBld_rel k4) hps
    obtain ⟨ws, e3, e4⟩ := fill_run (fun i => r.toArray[i]?) hzr (hp.mono fun p q ⟨⟨x, y, fd, f1, f2, f3⟩, rest⟩ => ⟨by
      have := e2 q.1 fd p.2.1 (by simpa using f1) f3
      simp only at f2
      simp [this, f2], rest⟩) hfill
    refine out_pure R ?_ (.agg e4)
    have e1' : (fs.mapM fun f => (do pure (f.offset, ← sizeOf f.type) : Sem (Nat × Nat))).run P w = .ok r.toArray w := by
      rw [Array.mapM_eq_mapM_toList]; simp only [Sem.run_map, e1, Result.andThen_ok]
    simp only [execOp, hop, Instr.build, Sem.run_bind, zeroValue, typeInfo, run_program, hi, hz, Sem.run_pure, Result.andThen_ok, run_und hu, e1']
    rw [hza] 
    have e3' : Instr.fill (fun i => r.toArray[i]?) z.cells.toList.toArray (parts'.map fun (q : Nat × Operand) => (q.1, a.eval q.2)).toList = some ws.toArray := by
      rw [← e3]; simp
    simp only [e3']
    simp
  · rename_i n e hu
    split at k2
    · rename_i ei hei
      have hp := evParts_rel (a := a) (fun q p => p.1 = q.1 * ei.size ∧ p.2.1 = ei.size) hE (okArr_rel k2) hps
      obtain ⟨ws, e3, e4⟩ := fill_run (fun i => some (i * ei.size, ei.size)) hzr (hp.mono fun p q ⟨⟨x, y, f1, f2⟩, rest⟩ => ⟨by
        simp only at f1 f2; simp [f1, f2], rest⟩) hfill
      refine out_pure R ?_ (.agg e4)
      simp only [execOp, hop, Instr.build, Sem.run_bind, zeroValue, sizeOf, typeInfo, run_program, hi, hz, hei, Sem.run_pure, Result.andThen_ok, run_und hu]
      rw [hza]
      have e3' : Instr.fill (fun i => some (i * ei.size, ei.size)) z.cells.toList.toArray (parts'.map fun (q : Nat × Operand) => (q.1, a.eval q.2)).toList = some ws.toArray := by
        rw [← e3]; simp
      simp only [e3']
      simp
    · simp at k2
  · simp at k2

end Go.Ab


/- Each operation does in the model what it does here: slices made, cut, appended to. -/
namespace Go.Ab
variable [Base]
set_option linter.unusedSectionVars false
set_option linter.unusedVariables false
variable {P : Program} {β : Bt} {E : Env} {h : Heap} {w : World} {a : Act}

theorem rep_length (zero : List SV) : ∀ n, (rep zero n).length = n * zero.length
  | 0 => by simp [rep]
  | n + 1 => by simp [rep, rep_length zero n, Nat.add_mul]; omega

theorem rep_get (zero : List SV) : ∀ (n i : Nat), i < n * zero.length → (rep zero n)[i]? = zero[i % zero.length]?
  | 0, i, h => by simp at h
  | n + 1, i, h => by
    simp only [rep]
    by_cases hi : i < zero.length
    · rw [List.getElem?_append_left hi, Nat.mod_eq_of_lt hi]
    · rw [List.getElem?_append_right (by omega), rep_get zero n (i - zero.length) (by rw [Nat.add_mul] at h; omega)]
      rw [← Nat.mod_eq_sub_mod (by omega)]

theorem made_rel {zero : List SV} {z : Array Value} (hz : F2 (SRel β) zero z.toList) (n : Nat) : F2 (SRel β) (rep zero n) (madeCells z (n * zero.length)).toList := by
  have hl := hz.length
  refine F2.of_get (by simp [rep_length, madeCells]) fun i x y hx hy => ?_
  have hi : i < n * zero.length := by
    have := (List.getElem?_eq_some_iff.1 hx).1
    rwa [rep_length] at this
  rw [rep_get zero n i hi] at hx
  have hpos : 0 < zero.length := by
    rcases Nat.eq_zero_or_pos zero.length with h0 | h0
    · rw [h0] at hi; omega
    · exact h0
  obtain ⟨c, q1, q2⟩ := hz.get hx
  simp [madeCells] at hy
  obtain ⟨k, hk, hy⟩ := hy
  rw [List.getElem?_range hi] at hk
  simp at hk; subst hk
  have hsz : z.size = zero.length := by simpa using hl.symm
  rw [hsz] at hy
  have : z[i % zero.length]! = c := by
    have hq : z[i % zero.length]? = some c := by simpa using q1
    simp [getElem!_def, hq]
  rw [← hy, this]; exact q2

theorem slc_new {L : Loc} {n c : Nat} {cap : Option Nat} (h1 : L.b = w.heap.size) (h2 : L.base = 0) (hl : n ≤ c) (hc : ∀ k, cap = some k → c = k) (hp : 1 ≤ L.esz.n ∧ L.esz.n < 1000000) (hb : c * L.esz.n ≤ L.sz) :
    SRel (upd β h.length L) (.slc h.length 0 n cap) (.slice (some ⟨w.heap.size, 0, none⟩) n c) :=
  SRel.slc (off := 0) (len := n) (cap := cap) (c := c) (upd_same β h.length L) hc hl (fun _ => by rw [h1, h2]) (fun _ => ⟨hp.1, by omega⟩) hp.2

theorem s_bsl {esz : ESz} {zero : List SV} {len : Nat} {parts : List (Nat × AO)} {o : Oper} {v : Option AV} {h' : Heap} (hok : okOp P (.bsl esz zero len parts) o.op = true) (hE : ERel β E a.tmps) (R : Rep β h w) (hf : fresh β h h')
    (hs : step1 E h (.bsl esz zero len parts) = some (v, h')) : Out1 β h w ((execOp a.eval o).run P w) v h' := by
  cases hop : o.op <;> rw [hop] at hok <;> simp only [okOp, Bool.and_eq_true, decide_eq_true_eq, Bool.false_eq_true] at hok
  rename_i t len' parts'
  obtain ⟨⟨⟨rfl, k2⟩, k0⟩, k3⟩ := hok
  obtain ⟨e, hu, hg⟩ := elIs_some k3
  simp at hg
  obtain ⟨⟨⟨hsz, hzero⟩, hze⟩, hty⟩ := hg
  have hty' := tyIs_ok hty
  have hpos := eszOk_pos k0
  have hlow := eszOk_low k0
  obtain ⟨en, ty⟩ := esz
  simp only at hsz hze hs hty' hpos hlow
  subst hze
  obtain ⟨ti, z, hi, hz, hc⟩ := zeroIs_some hzero
  have hzr := okCells_rel (β := β) hc
  simp only [step1] at hs
  split at hs
  · rename_i hbig
    simp only [Option.bind_eq_some_iff, Option.map_eq_some_iff, Prod.mk.injEq] at hs
    obtain ⟨ps, hps, cs, hfill, rfl, rfl⟩ := hs
    have hm := made_rel hzr len
    have hp := evParts_rel (a := a) (fun q p => p.1 = q.1 * zero.length ∧ p.2.1 = zero.length) hE (okSl_rel k2) hps
    obtain ⟨ws, e3, e4⟩ := fill_run (fun i => some (i * zero.length, zero.length)) hm (hp.mono fun p q ⟨⟨x, y, f1, f2⟩, rest⟩ => ⟨by
      simp only at f1 f2; simp [f1, f2], rest⟩) hfill
    obtain ⟨L, l1, l2, l3, l4, q1, q2⟩ := alloc_out R hf e hty' hlow e4
    have hlen : ws.length = len * zero.length := by
      rw [← e4.length, fillA_len hfill, rep_length]
    refine ⟨_, _, q1, q2, _, ?_, .sc (slc_new l1 l2 (Nat.le_refl len) (fun k hk => by simpa using hk) (by rw [l4]; exact ⟨hpos, hlow⟩) (by rw [l4, l3, hlen]; exact Nat.le_refl _))⟩
    have hsz' : (sizeOf e).run P w = .ok zero.length w := run_sz hsz w
    have hzv : (zeroValue e).run P w = .ok z w := by simp [zeroValue, typeInfo, hi, hz]
    have e3' : Instr.fill (fun i => some (i * zero.length, zero.length)) (madeCells z.cells (len * zero.length)) (parts'.map fun (q : Nat × Operand) => (q.1, a.eval q.2)).toList = some ws.toArray := by
      rw [← e3]; simp
    have hbig' : ¬ (len * zero.length > 2 ^ 24) := by omega
    simp only [execOp, hop, Instr.buildSlice, Sem.run_bind, run_und hu, hsz', Result.andThen_ok]
    simp only [hbig', if_false]
    by_cases h0 : len * zero.length = 0
    · have e4' : Instr.fill (fun i => some (i * zero.length, zero.length)) (Array.map (fun x => (default : Value)) (Array.range 0)) (List.map (fun x => (x.fst, a.eval x.snd)) parts'.toList) = some ws.toArray := by
        have e5 := e3'
        rw [h0] at e5
        simpa [madeCells, Array.range_zero'] using e5
      simp [h0, e4', newRow]
    · have e4' : Instr.fill (fun i => some (i * zero.length, zero.length)) (Array.map (fun x => z.cells[x % z.cells.size]!) (Array.range (len * zero.length))) (List.map (fun x => (x.fst, a.eval x.snd)) parts'.toList) = some ws.toArray := by
        have e5 := e3'
        rw [Array.toList_map] at e5
        exact e5
      simp only [if_neg h0]
      simp [hzv, e4', newRow]
  · simp at hs

theorem s_mk {esz : ESz} {bytes : Nat} {zero : List SV} {x y : AO} {o : Oper} {v : Option AV} {h' : Heap} (hok : okOp P (.mk esz bytes zero x y) o.op = true) (hE : ERel β E a.tmps) (R : Rep β h w) (hf : fresh β h h')
    (hs : step1 E h (.mk esz bytes zero x y) = some (v, h')) : Out1 β h w ((execOp a.eval o).run P w) v h' := by
  cases hop : o.op <;> rw [hop] at hok <;> simp only [okOp, Bool.and_eq_true, Bool.false_eq_true] at hok
  rename_i t x' y'
  obtain ⟨⟨⟨k1, k2⟩, k0⟩, k3⟩ := hok
  obtain ⟨e, hu, hg⟩ := elIs_some k3
  simp at hg
  obtain ⟨⟨⟨⟨hsz, hby⟩, hzero⟩, hze⟩, hty⟩ := hg
  have hty' := tyIs_ok hty
  have hpos := eszOk_pos k0
  have hlow := eszOk_low k0
  obtain ⟨en, ty⟩ := esz
  simp only at hsz hze hs hty' hpos hlow
  subst hze
  obtain ⟨ti, z, hi, hz, hc⟩ := zeroIs_some hzero
  have hzr := okCells_rel (β := β) hc
  have hs1 : ti.size = zero.length := by simpa [szIs, hi] using hsz
  have hs2 : ti.bytes = bytes := by simpa [byIs, hi] using hby
  simp only [step1] at hs
  split at hs
  · rename_i kl n km m hp hq
    split at hs
    · rename_i hb
      obtain ⟨b1, b2, b3⟩ := hb
      simp at hs
      obtain ⟨rfl, rfl⟩ := hs
      have r1 := evS_rel k1 hE hp
      have r2 := evS_rel k2 hE hq
      generalize hpv : a.eval x' = pv at r1
      generalize hqv : a.eval y' = qv at r2
      cases r1
      cases r2
      have hbig : (bigN : Int) = 1099511627776 := rfl
      rw [show ((bytes + 1 : Nat) : Int) = (bytes : Int) + 1 by omega, Int.mul_add, hbig] at b3
      have b0 : 0 ≤ m * (bytes : Int) := Int.mul_nonneg (by omega) (by omega)
      have hr := run_make (P := P) w t e ti z hu hi hz kl km n m b1 b2 (by rw [hs2, Int.mul_comm]; omega) (by omega)
      have hm := made_rel hzr m.toNat
      rw [hs1] at hr
      obtain ⟨L, l1, l2, l3, l4, q1, q2⟩ := alloc_out R hf e hty' hlow hm
      refine ⟨_, _, q1, q2, _, ?_, .sc (slc_new (n := n.toNat) (c := m.toNat) l1 l2 (by omega) (fun k hk => by simpa using hk) (by rw [l4]; exact ⟨hpos, hlow⟩) (by rw [l4, l3]; simp [madeCells]))⟩
      simp [execOp, hop, hpv, hqv, hr]
    · simp at hs
  · simp at hs

theorem bnd_run {d l : Nat} {x : Option AO} {x' : Option Operand} (hok : okOpt x x' = true) (hE : ERel β E a.tmps) (hb : bnd E d x = some l) :
    (x' = none ∧ l = d) ∨ ∃ y k, x' = some y ∧ a.eval y = .int k l := by
  unfold okOpt at hok
  split at hok
  · simp [bnd] at hb; exact .inl ⟨rfl, hb.symm⟩
  · rename_i x y
    refine .inr ⟨y, ?_⟩
    simp only [bnd] at hb
    split at hb
    · rename_i k n hx
      have r := evS_rel hok hE hx
      split at hb
      · rename_i hn
        simp at hb; subst hb
        generalize hv : a.eval y = yv at r
        cases r
        exact ⟨k, rfl, by rw [Int.toNat_of_nonneg hn]⟩
      · simp at hb
    · simp at hb
  · simp at hok

theorem bounds_run {isS : Bool} {len cap l u : Nat} {lo hi : Option AO} {lo' hi' : Option Operand} (k1 : okOpt lo lo' = true) (k2 : okOpt hi hi' = true) (hE : ERel β E a.tmps)
    (h1 : bnd E 0 lo = some l) (h2 : bnd E len hi = some u) (hlu : l ≤ u) (hu : u ≤ cap) (w : World) :
    (Instr.sliceBounds isS len cap (lo'.map a.eval) (hi'.map a.eval) none).run P w = .ok (l, u, cap) w := by
  rcases bnd_run (a := a) k1 hE h1 with ⟨rfl, rfl⟩ | ⟨y, k, rfl, hy⟩ <;> rcases bnd_run (a := a) k2 hE h2 with ⟨rfl, rfl⟩ | ⟨y', k', rfl, hy'⟩
  · simp [Instr.sliceBounds]
  · simp [Instr.sliceBounds, hy', Instr.sliceBound, asIntOf, hu]
  · simp [Instr.sliceBounds, hy, Instr.sliceBound, asIntOf, hlu]
  · simp [Instr.sliceBounds, hy, hy', Instr.sliceBound, asIntOf, hlu, hu]

theorem s_sl {esz : ESz} {x : AO} {lo hi : Option AO} {o : Oper} {v : Option AV} {h' : Heap} (hok : okOp P (.sl esz x lo hi) o.op = true) (hE : ERel β E a.tmps) (R : Rep β h w)
    (hs : step1 E h (.sl esz x lo hi) = some (v, h')) : Out1 β h w ((execOp a.eval o).run P w) v h' := by
  cases hop : o.op <;> rw [hop] at hok <;> simp only [okOp, Bool.and_eq_true, Bool.false_eq_true] at hok
  rename_i t x' lo' hi' mx
  obtain ⟨⟨⟨⟨k1, k2⟩, k3⟩, k4⟩, k5⟩ := hok
  obtain ⟨e, hu, hsz⟩ := elIs_some k5
  have hmx : mx = none := by simpa using k4
  subst hmx
  simp only [step1, Option.bind_eq_some_iff, Option.map_eq_some_iff, Prod.mk.injEq] at hs
  obtain ⟨p, hp, n, hn, l, hl, u, hu', s, hs', rfl, rfl⟩ := hs
  have r1 := evS_rel k1 hE hp
  generalize hpv : a.eval x' = pv at r1
  unfold sliceS at hs'
  split at hs'
  · split at hs'
    · rename_i hb
      obtain ⟨rfl, rfl⟩ := hb
      simp at hs'; subst hs'
      simp [lenS] at hn; subst hn
      cases r1
      refine out_pure R ?_ (.sc .nilS)
      have hb := bounds_run (P := P) (isS := true) (len := 0) (cap := 0) k2 k3 hE hl hu' (Nat.le_refl _) (Nat.le_refl _) w
      simp [execOp, hop, hpv, Instr.sliceAt, Instr.slice, run_und hu, hb, run_sz hsz]
    · simp at hs'
  · rename_i id off n' cap
    split at hs'
    · rename_i bk hg
      split at hs'
      · rename_i hb
        obtain ⟨he', hb1, hb2⟩ := hb
        simp at hs'; subst hs'
        simp [lenS] at hn; subst hn
        cases r1 with
        | slc hL hc hl' ho hb' hn' =>
          rename_i L c ad
          have he := R.sz id bk L hg hL
          generalize bk.esz = e' at he he'
          subst he'
          have hb := bounds_run (P := P) (isS := true) (len := n') (cap := c) k2 k3 hE hl (by simpa using hu') hb1 (by omega) w
          have hmul : l * e'.n + (c - l) * e'.n = c * e'.n := by rw [← Nat.add_mul]; congr 1; omega
          by_cases hcl : c = l
          · subst hcl
            refine out_pure R (c := .slice (some ad) (u - c) (c - c)) ?_ (.sc (.slc hL ?_ (by omega) (by omega) (by omega) hn'))
            · simp [execOp, hop, hpv, Instr.sliceAt, Instr.slice, run_und hu, hb, run_sz hsz]
            · intro k hk
              simp at hk
              obtain ⟨k', hk', rfl⟩ := hk
              have := hc k' hk'; omega
          · have had := ho (by omega)
            have hb2 := hb' (by omega)
            subst had
            refine out_pure R (c := .slice (some ⟨L.b, L.base + off + l * e'.n, none⟩) (u - l) (c - l)) ?_ (.sc (.slc hL ?_ (by omega) ?_ ?_ hn'))
            · simp [execOp, hop, hpv, Instr.sliceAt, Instr.slice, run_und hu, hb, run_sz hsz, hcl, Addr.add_off]
            · intro k hk
              simp at hk
              obtain ⟨k', hk', rfl⟩ := hk
              have := hc k' hk'; omega
            · intro _
              rw [Nat.add_assoc]
            · intro _
              rw [he] at hb2 ⊢
              exact ⟨hb2.1, by have := hb2.2; omega⟩
      · simp at hs'
    · simp at hs'
  · simp at hs'

theorem s_sl1 {x : AO} {lo hi : Option AO} {o : Oper} {v : Option AV} {h' : Heap} (hok : okOp P (.sl1 x lo hi) o.op = true) (hE : ERel β E a.tmps) (R : Rep β h w)
    (hs : step1 E h (.sl1 x lo hi) = some (v, h')) : Out1 β h w ((execOp a.eval o).run P w) v h' := by
  cases hop : o.op <;> rw [hop] at hok <;> simp only [okOp, Bool.and_eq_true, Bool.false_eq_true] at hok
  rename_i t x' lo' hi' mx
  obtain ⟨⟨⟨⟨k1, k2⟩, k3⟩, k4⟩, k5⟩ := hok
  obtain ⟨e, hu, hsz⟩ := elIs_some k5
  have hmx : mx = none := by simpa using k4
  subst hmx
  simp only [step1, Option.bind_eq_some_iff, Option.map_eq_some_iff, Prod.mk.injEq] at hs
  obtain ⟨p, hp, n, hn, l, hl, u, hu', s, hs', rfl, rfl⟩ := hs
  have r1 := evS_rel k1 hE hp
  generalize hpv : a.eval x' = pv at r1
  unfold slice1 at hs'
  split at hs'
  · split at hs'
    · rename_i hb
      obtain ⟨rfl, rfl⟩ := hb
      simp at hs'; subst hs'
      simp [lenS] at hn; subst hn
      cases r1
      refine out_pure R ?_ (.sc .nilS)
      have hb := bounds_run (P := P) (isS := true) (len := 0) (cap := 0) k2 k3 hE hl hu' (Nat.le_refl _) (Nat.le_refl _) w
      simp [execOp, hop, hpv, Instr.sliceAt, Instr.slice, run_und hu, hb, run_sz hsz]
    · simp at hs'
  · rename_i id off n' cap
    split at hs'
    · rename_i hb
      obtain ⟨hb1, hb2⟩ := hb
      simp at hs'; subst hs'
      simp [lenS] at hn; subst hn
      cases r1 with
      | slc hL hc hl' ho hb' hn' =>
        rename_i L c ad
        have hb := bounds_run (P := P) (isS := true) (len := n') (cap := c) k2 k3 hE hl (by simpa using hu') hb1 (by omega) w
        by_cases hcl : c = l
        · subst hcl
          refine out_pure R (c := .slice (some ad) (u - c) (c - c)) ?_ (.sc (.slc hL ?_ (by omega) (by omega) (by omega) hn'))
          · simp [execOp, hop, hpv, Instr.sliceAt, Instr.slice, run_und hu, hb, run_sz hsz]
          · intro k hk
            simp at hk
            obtain ⟨k', hk', rfl⟩ := hk
            have := hc k' hk'; omega
        · have had := ho (by omega)
          obtain ⟨hb3, hb4⟩ := hb' (by omega)
          subst had
          refine out_pure R (c := .slice (some ⟨L.b, L.base + off + l, none⟩) (u - l) (c - l)) ?_ (.sc (.slc hL ?_ (by omega) ?_ ?_ hn'))
          · simp [execOp, hop, hpv, Instr.sliceAt, Instr.slice, run_und hu, hb, run_sz hsz, hcl, Addr.add_off]
          · intro k hk
            simp at hk
            obtain ⟨k', hk', rfl⟩ := hk
            have := hc k' hk'; omega
          · intro _
            rw [Nat.add_assoc]
          · intro _
            refine ⟨hb3, ?_⟩
            have h1 : (c - l) * L.esz.n + l * L.esz.n = c * L.esz.n := by rw [← Nat.add_mul]; congr 1; omega
            have h2 : l * 1 ≤ l * L.esz.n := Nat.mul_le_mul_left _ hb3
            omega
    · simp at hs'
  · simp at hs'

theorem s_slS {x : AO} {lo hi : Option AO} {o : Oper} {v : Option AV} {h' : Heap} (hok : okOp P (.slS x lo hi) o.op = true) (hE : ERel β E a.tmps) (R : Rep β h w)
    (hs : step1 E h (.slS x lo hi) = some (v, h')) : Out1 β h w ((execOp a.eval o).run P w) v h' := by
  cases hop : o.op <;> rw [hop] at hok <;> simp only [okOp, Bool.and_eq_true, Bool.false_eq_true] at hok
  rename_i t x' lo' hi' mx
  obtain ⟨⟨⟨⟨k1, k2⟩, k3⟩, k4⟩, k5⟩ := hok
  have hu := strIs_some k5
  have hmx : mx = none := by simpa using k4
  subst hmx
  simp only [step1] at hs
  split at hs
  · rename_i s hp
    simp only [Option.bind_eq_some_iff] at hs
    obtain ⟨l, hl, u, hu', hs⟩ := hs
    split at hs
    · rename_i hb
      simp at hs
      obtain ⟨rfl, rfl⟩ := hs
      have r1 := evS_rel k1 hE hp
      generalize hpv : a.eval x' = pv at r1
      cases r1
      have hbr := bounds_run (P := P) (isS := false) (len := s.size) (cap := s.size) k2 k3 hE hl hu' hb.1 hb.2 w
      refine out_pure R ?_ (.sc (.str _))
      simp [execOp, hop, hpv, Instr.sliceAt, Instr.slice, run_und hu, hbr]
    · simp at hs
  · simp at hs

theorem s_ext {x : AO} {i : Nat} {o : Oper} {v : Option AV} {h' : Heap} (hok : okOp P (.ext x i) o.op = true) (hE : ERel β E a.tmps) (R : Rep β h w)
    (hs : step1 E h (.ext x i) = some (v, h')) : Out1 β h w ((execOp a.eval o).run P w) v h' := by
  cases hop : o.op <;> rw [hop] at hok <;> simp [okOp] at hok
  rename_i x' i'
  obtain ⟨k1, rfl⟩ := hok
  simp only [step1] at hs
  split at hs
  · rename_i xs hp
    simp only [Option.map_eq_some_iff, Prod.mk.injEq] at hs
    obtain ⟨p, hp', rfl, rfl⟩ := hs
    have r1 := ev_rel k1 hE hp
    generalize hpv : a.eval x' = pv at r1
    cases r1 with
    | tup hr =>
      obtain ⟨c, q1, q2⟩ := hr.get hp'
      refine out_pure R ?_ q2.av
      simp [execOp, hop, hpv, Instr.extract, q1]
  · simp at hs

theorem caps_rel : ∀ {cs : List SV} {ps : List (Nat × Nat)} {vs : List Value}, F2 (SRel β) cs vs → (cs.mapM fun | SV.ptr i o => some (i, o) | _ => none) = some ps → F2 (CapR β) ps vs
  | [], ps, vs, h, hm => by
    cases h
    simp at hm; subst hm; exact .nil
  | c :: cs, ps, vs, h, hm => by
    cases h with
    | cons h1 h2 =>
      simp only [List.mapM_cons, Option.bind_eq_bind, Option.bind_eq_some_iff] at hm
      obtain ⟨p, hp, r, hr, hm⟩ := hm
      simp at hm; subst hm
      split at hp
      · simp at hp; subst hp
        cases h1 with
        | ptr hL hn => exact .cons ⟨_, hL, hn, rfl⟩ (caps_rel h2 hr)
      · simp at hp

theorem s_mkf {f : FuncId} {caps : List AO} {o : Oper} {v : Option AV} {h' : Heap} (hok : okOp P (.mkf f caps) o.op = true) (hE : ERel β E a.tmps) (R : Rep β h w)
    (hs : step1 E h (.mkf f caps) = some (v, h')) : Out1 β h w ((execOp a.eval o).run P w) v h' := by
  cases hop : o.op <;> rw [hop] at hok
  case makeFunc fn first captured =>
    cases fn <;> simp [okOp] at hok
    rename_i g
    obtain ⟨⟨rfl, rfl⟩, k3⟩ := hok
    simp only [step1, Option.bind_eq_some_iff, Option.map_eq_some_iff, Prod.mk.injEq] at hs
    obtain ⟨cs, hcs, ps, hps, rfl, rfl⟩ := hs
    have r := caps_rel (evSs_rel hE k3 hcs) hps
    refine out_pure R ?_ (.sc (.fn r))
    simp [execOp, hop, Instr.makeFunc]
    apply Array.ext'
    simp
  all_goals simp [okOp] at hok

theorem s_nilc {x : AO} {o : Oper} {v : Option AV} {h' : Heap} (hok : okOp P (.nilc x) o.op = true) (hE : ERel β E a.tmps) (R : Rep β h w)
    (hs : step1 E h (.nilc x) = some (v, h')) : Out1 β h w ((execOp a.eval o).run P w) v h' := by
  cases hop : o.op <;> rw [hop] at hok <;> simp [okOp] at hok
  rename_i x'
  simp only [step1] at hs
  split at hs
  · rename_i i off hp
    simp at hs
    obtain ⟨rfl, rfl⟩ := hs
    have r1 := evS_rel hok hE hp
    generalize hpv : a.eval x' = pv at r1
    cases r1 with
    | ptr hL hn => exact out_pure R (by simp [execOp, hop, hpv]) (.sc (.ptr hL hn))
  · rename_i f cs hp
    simp at hs
    obtain ⟨rfl, rfl⟩ := hs
    have r1 := evS_rel hok hE hp
    generalize hpv : a.eval x' = pv at r1
    cases r1 with
    | fn hc => exact out_pure R (by simp [execOp, hop, hpv]) (.sc (.fn hc))
  · simp at hs

end Go.Ab

