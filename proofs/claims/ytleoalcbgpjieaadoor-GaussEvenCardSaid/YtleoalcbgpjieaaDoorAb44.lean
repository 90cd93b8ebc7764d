import Derived.Test.YtleoalcbgpjieaaDoorAb41
import Derived.Maps.RangeRun
import Derived.Test.YtleoalcbgpjieaaDoorAb29
/- What holds whatever order a map is run through in: rules for code that ranges over maps. -/
namespace Go.Ab
set_option linter.unusedSectionVars false
set_option linter.unusedVariables false

section
variable [Base]
/-- No place beyond memory's end is known. -/
def Top (β : Bt) (h : Heap) : Prop := ∀ id, h.length ≤ id → β id = none
theorem Top.fresh {β : Bt} {h h' : Heap} (t : Top β h) : fresh β h h' := fun id h1 _ => t id h1
theorem Top.step {β β' : Bt} {h h' : Heap} {w w' : World} (t : Top β h) (s : Stp β h w β' h' w') : Top β' h' := fun id hid => by
  cases hb : β' id with
  | none => rfl
  | some L =>
    rcases s.dom id L hb with h1 | h1
    · rw [t id (Nat.le_trans s.len hid)] at h1; cases h1
    · omega
/-- How it ends: somehow, as Q allows. -/
def RPost (β : Bt) (h : Heap) (w : World) (n : Nat) (ds : List Deferred) (Q : Ex → Env → Heap → Prop) (x : Exit) (a' : Act) (w' : World) : Prop :=
  ∃ ex E' h' β', x = exOf ex ∧ Q ex E' h' ∧ Stp β h w β' h' w' ∧ Rep β' h' w' ∧ ERel β' E' a'.tmps ∧ a'.tmps.size = n ∧ a'.defers = ds
/-- Whatever order is taken, Q holds at the end. -/
def RW (P : Program) (n : Nat) (c : AC) (E : Env) (h : Heap) (Q : Ex → Env → Heap → Prop) : Prop :=
  ∀ (d : Code), okCode P n c d = true → ∀ (β : Bt) (w : World) (a : Act), Rep β h w → Top β h → ERel β E a.tmps → a.tmps.size = n → d.wp P (RPost β h w n a.defers Q) a w
variable {P : Program} {n : Nat} {c a b : AC} {E : Env} {h : Heap} {Q Q' : Ex → Env → Heap → Prop}
theorem RW.mono (hw : RW P n c E h Q) (hq : ∀ ex E' h', Q ex E' h' → Q' ex E' h') : RW P n c E h Q' := fun d hd β w a R t hE hn =>
  wp_mono (hw d hd β w a R t hE hn) fun x a' w' ⟨ex, E', h', β', h1, h2, h3⟩ => ⟨ex, E', h', β', h1, hq _ _ _ h2, h3⟩
/-- Code that is reckoned. -/
theorem RW.det {FT : FuncId → Option AFun} {HK : FuncId → Option Hook} (ok : FTok P FT) (hk : HKok P HK) (hw : wA FT HK c E h Q) : RW P n c E h Q := fun d hd β w a R t hE hn => by
  obtain ⟨ex, E', h', ⟨N, hN⟩, hq⟩ := wA_run hw
  exact exec_sound ok.mixed (call_ok ok hk N) N n hd hn hE R t.fresh (hN N (Nat.le_refl _)) fun β' w' a' s1 s2 s3 s4 s5 => ⟨ex, E', h', β', rfl, hq, s1, s2, s3, s4, s5⟩
theorem RW.seq (ha : RW P n a E h (wSeq (fun E' h' => RW P n b E' h' Q) Q)) : RW P n (.seq a b) E h Q := fun d hd β w ac R t hE hn => by
  cases d <;> simp [okCode] at hd
  refine wp_seq (wp_mono (ha _ hd.1 β w ac R t hE hn) ?_)
  rintro x a' w' ⟨ex, E', h', β', rfl, hq, s1, s2, s3, s4, s5⟩
  cases ex with
  | nm =>
    refine wp_mono (hq _ hd.2 β' w' a' s2 (t.step s1) s3 s4) ?_
    rintro x2 a2 w2 ⟨ex2, E2, h2, β2, e1, q2, t1, t2, t3, t4, t5⟩
    exact ⟨ex2, E2, h2, β2, e1, q2, s1.trans t1, t2, t3, t4, t5.trans s5⟩
  | ex i => exact ⟨.ex i, E', h', β', rfl, hq, s1, s2, s3, s4, s5⟩
  | rt => exact ⟨.rt, E', h', β', rfl, hq, s1, s2, s3, s4, s5⟩
theorem RW.cond {x : AO} {t : Bool} (hc : evS E x = some (.bool t)) (hw : RW P n (if t = true then a else b) E h Q) : RW P n (.cond x a b) E h Q := fun d hd β w ac R tp hE hn => by
  cases d <;> simp [okCode] at hd
  obtain ⟨⟨k1, k2⟩, k3⟩ := hd
  have r := evS_rel k1 hE hc
  generalize hcv : ac.eval _ = cv at r
  cases r
  cases t
  · exact wp_cond_false hcv (hw _ k3 β w ac R tp hE hn)
  · exact wp_cond_true hcv (hw _ k2 β w ac R tp hE hn)
theorem RW.block {id : Nat} (hw : RW P n a E h (wBlk id Q)) : RW P n (.block id a) E h Q := fun d hd β w ac R t hE hn => by
  cases d <;> simp [okCode] at hd
  obtain ⟨rfl, k2⟩ := hd
  refine wp_block (wp_mono (hw _ k2 β w ac R t hE hn) ?_)
  rintro x a' w' ⟨ex, E', h', β', rfl, hq, s1, s2, s3, s4, s5⟩
  cases ex with
  | nm => exact ⟨.nm, E', h', β', rfl, hq, s1, s2, s3, s4, s5⟩
  | rt => exact ⟨.rt, E', h', β', rfl, hq, s1, s2, s3, s4, s5⟩
  | ex i =>
    simp only [wBlk] at hq
    rw [wIf_eq] at hq
    split at hq
    · rename_i hi
      simp only [exOf, Exit.inBlock, hi, if_true]
      exact ⟨.nm, E', h', β', rfl, hq, s1, s2, s3, s4, s5⟩
    · rename_i hi
      simp only [exOf, Exit.inBlock, hi, if_false]
      exact ⟨.ex i, E', h', β', rfl, hq, s1, s2, s3, s4, s5⟩
theorem RW.loop {ks : List Nat} (I : Env → Heap → Prop) (μ : Env → Heap → Nat) (round : ∀ E h, I E h → RW P n c (E.keep ks) h (wRound I μ (μ E h) Q)) (hI : I E h) : RW P n (.loop ks c) E h Q := fun d hd β w ac R t hE hn => by
  cases d <;> simp [okCode] at hd
  rename_i body
  refine loop_of ?_
  have key : ∀ (k : Nat) (E : Env) (h : Heap) (β : Bt) (w : World) (ac : Act), μ E h = k → I E h → Rep β h w → Top β h → ERel β E ac.tmps → ac.tmps.size = n → LoopWp P body (RPost β h w n ac.defers Q) ac w := by
    intro k
    induction k using Nat.strongRecOn with
    | _ k ih =>
      intro E h β w ac hk hI R t hE hn
      refine loop_round (wp_mono (round E h hI _ hd β w ac R t (hE.keep ks) hn) ?_)
      rintro x a' w' ⟨ex, E', h', β', rfl, hq, s1, s2, s3, s4, s5⟩
      cases ex with
      | nm =>
        obtain ⟨h1, h2⟩ := hq
        have := ih _ (by omega) E' h' β' w' a' rfl h1 s2 (t.step s1) s3 s4
        intro b k cs
        obtain ⟨e2, a2, w2, ⟨ex2, E2, h2', β2, q0, q1, t1, t2, t3, t4, t5⟩, arr⟩ := this b k cs
        exact ⟨e2, a2, w2, ⟨ex2, E2, h2', β2, q0, q1, s1.trans t1, t2, t3, t4, t5.trans s5⟩, arr⟩
      | ex i => exact ⟨.ex i, E', h', β', rfl, hq, s1, s2, s3, s4, s5⟩
      | rt => exact ⟨.rt, E', h', β', rfl, hq, s1, s2, s3, s4, s5⟩
  exact key _ E h β w ac rfl hI R t hE hn
/-- An iterator's block. -/
def iterB (m n : Nat) (seen : List Nat) : List SV := .mapv m :: .int .i64 (n : Nat) :: seenV seen
theorem seenV_inj {a b : List Nat} (h : seenV a = seenV b) : a = b := by
  induction a generalizing b with
  | nil => cases b with
    | nil => rfl
    | cons y b => simp [seenV] at h
  | cons x a ih => cases b with
    | nil => simp [seenV] at h
    | cons y b =>
      simp only [seenV, List.map_cons, List.cons.injEq, SV.int.injEq, true_and] at h
      obtain ⟨h1, h2⟩ := h
      rw [ih (b := b) h2]
      congr 1; omega
/-- The next entry: none is left, or any of those that are. -/
theorem RW.next {FT : FuncId → Option AFun} {HK : FuncId → Option Hook} (ok : FTok P FT) (hk : HKok P HK) {t1 : Nat} {x : AO} {rest : List AOp} {ks : List Nat} {it m k : Nat} {seen : List Nat} {cs : List SV} {z zi : ESz}
    (hx : evS E x = some (.itv it)) (hi : h[it]? = some (.cells (iterB m k seen) true zi)) (hm : h[m]? = some (.cells cs true z)) (hl : cs.length / (z.kw + z.vw) = k)
    (hN : (∀ i, i < k → i ∈ seen) → wOps FT HK rest (bindE (some t1) (some (.tup [.sc (.bool false)])) E) h fun E' h' => Q .nm (E'.keep ks) h')
    (hS : ∀ i, i < k → i ∉ seen → wOps FT HK rest (bindE (some t1) (some (.tup [.sc (.bool true), mpPV (entK z cs i), mpPV (entV z cs i)])) E) (h.set it (.cells (iterB m k (seen ++ [i])) true zi)) fun E' h' => Q .nm (E'.keep ks) h') :
    RW P n (.reg (⟨some t1, .mpX x, none⟩ :: rest) ks) E h Q := fun d hd β w a R t hE hn => by
  cases d
  case region id os dr =>
    cases dr <;> simp [okCode] at hd
    refine wp_region_list ?_
    generalize hos : os.toList = ol at hd
    cases ol with
    | nil => simp [okOps] at hd
    | cons o r =>
      simp only [okOps, Bool.and_eq_true] at hd
      obtain ⟨d1, d2⟩ := hd
      simp only [okAOp, Bool.and_eq_true, decide_eq_true_eq] at d1
      obtain ⟨⟨⟨k1, k2⟩, k3⟩, k4⟩ := d1
      have hti : t1 < n := k3
      refine wpList_step fun K hK' => ?_
      rw [wants_rel (x := ⟨some t1, .mpX x, none⟩) (b := true) k4 hE rfl, if_pos rfl]
      cases hop : o.op <;> rw [hop] at k1 <;> simp [okOp] at k1
      rename_i x' sS
      obtain ⟨k1, rfl⟩ := k1
      have r1 := evS_rel k1 hE hx
      generalize hpv : a.eval x' = pv at r1
      cases r1 with
      | itv hL hLn =>
        rename_i L
        obtain ⟨m', M, n', last, sn, e1, e2, e3, e4, e5⟩ := iter_blk R hi hL hLn
        simp only [iterB, List.cons.injEq, SV.mapv.injEq, SV.int.injEq, true_and] at e1
        obtain ⟨rfl, e1, e1'⟩ := e1
        have := seenV_inj e1'
        subst this
        subst e5
        obtain ⟨es, q1, q2, q3, q4, q5⟩ := map_blk R hm e3 e2
        have hd' := map_size (L := M) q2 q3
        have hkn : last = k := by omega
        subst hkn
        have hes : es.size = last := by omega
        have hold : ∀ e ∈ es.toList, e.born < last := fun e he => by
          obtain ⟨i, hi⟩ := List.mem_iff_getElem?.1 he
          have hil := (List.getElem?_eq_some_iff.1 hi).1
          rw [Array.getElem?_toList] at hi
          rw [(q4 i e hi).1]
          simpa [hes] using hil
        rcases run_next_at (P := P) w o.type L.b M.b last last seen.toArray es es.size e4 q1 hold (Nat.le_refl _) with ⟨c1, c2⟩ | ⟨en, c1, w1, c2, c3⟩
        · have hall : ∀ i, i < last → i ∈ seen := fun i hi => Classical.byContradiction fun hns => by
            have hget : es[i]? = some es[i] := Array.getElem?_eq_getElem (by omega)
            have hb := (q4 i _ hget).1
            have : es[i] ∈ leftOf es seen.toArray := by
              unfold leftOf
              rw [Array.mem_filter]
              exact ⟨Array.getElem_mem _, by simp [hb, hns]⟩
            have h0 : leftOf es seen.toArray = #[] := Array.eq_empty_of_size_eq_zero c1
            rw [h0] at this
            simp at this
          obtain ⟨E2, h2, hq, N, hN2⟩ := wOps_run (hN hall)
          unfold Oper.wp
          have hrun : (execOp a.eval o).run P w = .ok (.value (.tuple #[.bool false])) w := by
            simp only [execOp, hop, hpv, Sem.run_bind, c2, Result.andThen_ok]; rfl
          rw [hrun, Oper.upon_value]
          refine hK' _ _ (ops_sound (call_ok ok hk N) d2 (by rw [put_size]; exact hn) ?_ R t.fresh (hN2 N (Nat.le_refl _)) fun β' w' a' s1 s2 s3 s4 s5 => ⟨.nm, _, h2, β', rfl, hq, s1, s2, s3.keep ks, s4, by rw [s5, put_defers]⟩)
          rw [← k2]
          exact hE.bind (some t1) _ _ (fun s hs => by cases hs; omega) (fun u hu => by cases hu; exact .tup (.cons (.sc (.bool false)) .nil)) a.defers
        · have c1' : en ∈ leftOf es seen.toArray := by simpa using c1
          unfold leftOf at c1'
          rw [Array.mem_filter] at c1'
          obtain ⟨m1, m2⟩ := c1'
          obtain ⟨i, hil, hgi⟩ := Array.mem_iff_getElem.1 m1
          have hget : es[i]? = some en := by rw [Array.getElem?_eq_getElem hil, hgi]
          have hborn := (q4 i en hget).1
          have hns : i ∉ seen := by simpa [hborn] using m2
          obtain ⟨E2, h2, hq, N, hN2⟩ := wOps_run (hS i (by omega) hns)
          have R1 : Rep β h w1 := by
            rcases c2 with rfl | rfl
            · exact R
            · exact R.drawn (w.drawn + 1)
          have hw1 : w1.heap = w.heap := by rcases c2 with rfl | rfl <;> rfl
          have S1 : Stp β h w β h w1 := by
            rcases c2 with rfl | rfl
            · exact Stp.refl _ _ _
            · exact ⟨fun _ _ h => h, fun _ _ h => .inl h, fun id h1 h2 => by omega, Nat.le_refl _, fun b hb => .inr hb, fun id L h1 h2 => by rw [h1] at h2; simp at h2, fun _ _ _ => rfl, Nat.le_refl _, rfl, rfl, rfl⟩
          obtain ⟨g1, g2⟩ := odd_set R1 hi hL (by omega) (.mapIter (some M.b) last (seen.toArray.push en.born) es.size) (iterB m last (seen ++ [i])) fun w' hw' => .inr ⟨by rw [← (show L.esz = zi from R.sz it _ L hi hL)]; exact hLn, m, M, last, last, seen ++ [i], rfl, e2, e3, by
            rw [hw', hborn]
            have : L.b < w1.heap.size := by rw [hw1]; exact (Array.getElem?_eq_some_iff.1 e4).1
            simp [this, hes], rfl⟩
          unfold Oper.wp
          have hrun : (execOp a.eval o).run P w = .ok (.value (.tuple #[.bool true, en.key, en.val])) { w1 with heap := w1.heap.setIfInBounds L.b (.mapIter (some M.b) last (seen.toArray.push en.born) es.size) } := by
            simp only [execOp, hop, hpv, Sem.run_bind, c3, Result.andThen_ok]; rfl
          rw [hrun, Oper.upon_value]
          have hv := (q4 i en hget).2
          have t' : Top β (h.set it (.cells (iterB m last (seen ++ [i])) true zi)) := fun id hid => t id (by simpa using hid)
          refine hK' _ _ (ops_sound (call_ok ok hk N) d2 (by rw [put_size]; exact hn) ?_ g2 t'.fresh (hN2 N (Nat.le_refl _)) fun β' w' a' s1 s2 s3 s4 s5 => ⟨.nm, _, h2, β', rfl, hq, (S1.trans g1).trans s1, s2, s3.keep ks, s4, by rw [s5, put_defers]⟩)
          rw [← k2]
          exact hE.bind (some t1) _ _ (fun s hs => by cases hs; omega) (fun u hu => by cases hu; exact .tup (.cons (.sc (.bool true)) (.cons hv.1.av.2 (.cons hv.2.av.2 .nil)))) a.defers
  all_goals simp [okCode] at hd
end
end Go.Ab


/- A function that ranges over a map, as a contract: it is walked in a memory of its own, and what it leaves is laid anew. -/
namespace Go.Ab
set_option linter.unusedSectionVars false
set_option linter.unusedVariables false

section
variable [Base]
/-- How a call in a memory of its own ends. -/
def OwnRun (P : Program) (f : FuncId) (vs : List Value) (w : World) (Q : AV → Heap → Prop) : Prop :=
  Calls P f vs.toArray w fun e w' => ∃ β1 h1 v c, e = .returned c ∧ Q v h1 ∧ ARel β1 v c ∧ Rep β1 h1 w' ∧ (∀ id L, β1 id = some L → w.heap.size ≤ L.b) ∧ (∀ id, id < h1.length → ∃ L, β1 id = some L) ∧
    (∀ b, b < w.heap.size → w'.heap[b]? = w.heap[b]?) ∧ w.heap.size ≤ w'.heap.size ∧ w'.os = w.os ∧ w'.tape = w.tape ∧ w'.output = w.output

theorem rw_apart {P : Program} {FT : FuncId → Option AFun} (ok : FTok P FT) {f : FuncId} {F : AFun} (hF : FT f = some F) {args : List AV} {vs : List Value} {w : World} (hl : args.length = F.np)
    (hk : Base.B ≤ w.heap.size ∧ ∀ b, b < Base.B → w.heap[b]? = Base.W.heap[b]?) (hr : F2 (ARel fun _ => none) args vs) {Q : AV → Heap → Prop}
    (hw : ∀ n, RW P n F.body (params 0 args) [] fun ex E' h' => (ex = .nm ∨ ex = .rt) ∧ ∃ v, resultsA F.res E' h' = some v ∧ Q v h') : OwnRun P f vs w Q := by
  obtain ⟨fn, h1, h2⟩ := ok.ok f F hF
  simp only [okFun, Bool.and_eq_true, decide_eq_true_eq] at h2
  obtain ⟨⟨⟨h3, h4⟩, h5⟩, h6⟩ := h2
  split at h3
  · rename_i c hc
    have hvl := hr.length
    have R0 : Rep (fun _ => none) [] w := ⟨fun _ _ _ h => by simp at h, fun _ _ _ _ _ h => by simp at h, fun _ _ _ _ _ _ _ _ _ h => by simp at h, hk⟩
    refine calls_of_wp h1 hc (wp_mono (hw fn.ntmps c h3 _ w _ R0 (fun _ _ => rfl) ?_ ?_) ?_)
    · intro t u ht
      obtain ⟨-, k2⟩ := params_get args 0 t u ht
      simp at k2
      obtain ⟨cv, k3, k4⟩ := hr.get k2
      refine ⟨cv, ?_, k4⟩
      have hlt : t < vs.length := (List.getElem?_eq_some_iff.1 k3).1
      rw [Array.getElem?_append_left (by simpa using hlt)]
      simpa using k3
    · simp; omega
    · rintro x a' w' ⟨ex, E', h', β', rfl, ⟨hex, v, hres, hq⟩, s1, s2, s3, s4, s5⟩
      obtain ⟨cv, r1, r2⟩ := results_run h4 s3 s2 hres
      have hlo : ∀ id L, β' id = some L → w.heap.size ≤ L.b := fun id L hL => by
        rcases s1.new id L hL rfl with h | ⟨_, _, _, _, hg, _⟩
        · exact h
        · simp at hg
      have hfr : ∀ b, b < w.heap.size → w'.heap[b]? = w.heap[b]? := fun b hb => s1.frame b hb (by rintro ⟨_, _, _, _, hg, _⟩; simp at hg)
      rcases hex with rfl | rfl
      · exact ⟨s5, cv, r1, β', h', v, cv, rfl, hq, r2, s2, hlo, fun id hid => s1.full id (by simp) hid, hfr, s1.size, s1.os, s1.tape, s1.output⟩
      · exact ⟨s5, cv, r1, β', h', v, cv, rfl, hq, r2, s2, hlo, fun id hid => s1.full id (by simp) hid, hfr, s1.size, s1.os, s1.tape, s1.output⟩
  · simp at h3

/-- Values that name no place. -/
def flatV : SV → Prop
  | .int _ _ => True
  | .bool _ => True
  | _ => False
theorem flatV.rel {β β' : Bt} {x : SV} {c : Value} (h : flatV x) (r : SRel β x c) : SRel β' x c := by
  cases r <;> simp [flatV] at h
  · exact .bool _
  · exact .int _ _
/-- Places that are laid anew behind h. -/
def layB (β : Bt) (n : Nat) (β1 : Bt) (ids : List Nat) : Bt := fun id => if id < n then β id else if id < n + ids.length then β1 (ids[id - n]?.getD 0) else β id
theorem layB_new {β : Bt} {n : Nat} {β1 : Bt} {ids : List Nat} {j : Nat} (hj : j < ids.length) : layB β n β1 ids (n + j) = β1 (ids[j]?.getD 0) := by
  unfold layB
  rw [if_neg (by omega), if_pos (by omega), Nat.add_sub_cancel_left]
theorem laid {β β1 : Bt} {h h1 : Heap} {w w' : World} (R : Rep β h w) (R1 : Rep β1 h1 w') (hlo : ∀ id L, β1 id = some L → w.heap.size ≤ L.b) (hfull : ∀ id, id < h1.length → ∃ L, β1 id = some L)
    (hw : ∀ b, b < w.heap.size → w'.heap[b]? = w.heap[b]?) (hsz : w.heap.size ≤ w'.heap.size) (hos : w'.os = w.os) (htp : w'.tape = w.tape) (hout : w'.output = w.output)
    (ids : List Nat) (bs : List (List SV × ESz)) (hnd : ids.Nodup) (hlen : ids.length = bs.length) (hb : ∀ (j id : Nat), ids[j]? = some id → ∃ b, bs[j]? = some b ∧ h1[id]? = some (.cells b.1 true b.2) ∧ b.2.n < 1000000 ∧ ∀ x ∈ b.1, flatV x)
    (hf : fresh β h (h ++ bs.map fun b => Blk.cells b.1 true b.2)) :
    Stp β h w (layB β h.length β1 ids) (h ++ bs.map fun b => Blk.cells b.1 true b.2) w' ∧ Rep (layB β h.length β1 ids) (h ++ bs.map fun b => Blk.cells b.1 true b.2) w' := by
  have hR : Rep β h w' := rep_later R hw
  have hle : β.le (layB β h.length β1 ids) := fun id L hL => by
    unfold layB
    split
    · exact hL
    · split
      · rename_i g1 g2
        have := hf id (by omega) (by simp; omega)
        rw [this] at hL; cases hL
      · exact hL
  have hold : ∀ id, id < h.length → layB β h.length β1 ids id = β id := fun id hid => by unfold layB; rw [if_pos hid]
  have hsplit : ∀ (i : Nat) (x : Blk), (h ++ bs.map fun b => Blk.cells b.1 true b.2)[i]? = some x → (i < h.length ∧ h[i]? = some x) ∨ ∃ j b, i = h.length + j ∧ j < ids.length ∧ bs[j]? = some b ∧ x = .cells b.1 true b.2 := fun i x hx => by
    rcases Nat.lt_or_ge i h.length with hi | hi
    · rw [List.getElem?_append_left hi] at hx
      exact .inl ⟨hi, hx⟩
    · rw [List.getElem?_append_right hi, List.getElem?_map] at hx
      cases hg : bs[i - h.length]? with
      | none => rw [hg] at hx; simp at hx
      | some b =>
        rw [hg] at hx; simp at hx
        have := (List.getElem?_eq_some_iff.1 hg).1
        exact .inr ⟨i - h.length, b, by omega, by omega, hg, hx.symm⟩
  have hnew : ∀ (j : Nat) (b : List SV × ESz) (L : Loc), j < ids.length → bs[j]? = some b → layB β h.length β1 ids (h.length + j) = some L →
      ∃ id, ids[j]? = some id ∧ β1 id = some L ∧ h1[id]? = some (.cells b.1 true b.2) ∧ b.2.n < 1000000 ∧ ∀ x ∈ b.1, flatV x := fun j b L hj hbj hL => by
    rw [layB_new hj] at hL
    have hg : ids[j]? = some ids[j] := List.getElem?_eq_getElem hj
    obtain ⟨b', e1, e2, e3, e4⟩ := hb j _ hg
    rw [hbj] at e1; cases e1
    rw [hg] at hL
    exact ⟨_, hg, hL, e2, e3, e4⟩
  refine ⟨⟨hle, ?_, ?_, by simp, ?_, ?_, fun b hb _ => hw b hb, hsz, hos, htp, hout⟩, ?_, ?_, ?_, hR.keep⟩
  · intro id L hL
    by_cases h1 : id < h.length
    · exact .inl (by rwa [hold id h1] at hL)
    · by_cases h2 : id < h.length + ids.length
      · exact .inr ⟨by omega, by simp; omega⟩
      · unfold layB at hL
        rw [if_neg h1, if_neg h2] at hL
        exact .inl hL
  · intro id h1 h2
    simp at h2
    obtain ⟨j, rfl⟩ : ∃ j, id = h.length + j := ⟨id - h.length, by omega⟩
    have hj : j < ids.length := by omega
    rw [layB_new hj]
    have hg : ids[j]? = some ids[j] := List.getElem?_eq_getElem hj
    obtain ⟨b, e1, e2, -, -⟩ := hb j _ hg
    rw [hg]
    exact hfull _ (List.getElem?_eq_some_iff.1 e2).1
  · rintro b ⟨id, L, cs, esz, hg, hL, rfl⟩
    rcases hsplit id _ hg with ⟨hi, hg'⟩ | ⟨j, b, rfl, hj, hbj, hx⟩
    · rw [hold id hi] at hL
      exact .inr ⟨id, L, cs, esz, hg', hL, rfl⟩
    · obtain ⟨k, _, hk, _⟩ := hnew j b L hj hbj hL
      exact .inl (hlo k L hk)
  · intro id L hL hn
    by_cases h1 : id < h.length
    · rw [hold id h1, hn] at hL; cases hL
    · by_cases h2 : id < h.length + ids.length
      · obtain ⟨j, rfl⟩ : ∃ j, id = h.length + j := ⟨id - h.length, by omega⟩
        rw [layB_new (by omega)] at hL
        exact .inl (hlo _ _ hL)
      · unfold layB at hL
        rw [if_neg h1, if_neg h2, hn] at hL
        cases hL
  · intro id b L hg hL
    rcases hsplit id _ hg with ⟨hi, hg'⟩ | ⟨j, b', rfl, hj, hbj, rfl⟩
    · rw [hold id hi] at hL
      exact hR.sz id b L hg' hL
    · obtain ⟨k, _, hk, hk2, _⟩ := hnew j b' L hj hbj hL
      exact R1.sz k _ L hk2 hk
  · intro id L cs rw esz hg hL
    rcases hsplit id _ hg with ⟨hi, hg'⟩ | ⟨j, b', rfl, hj, hbj, hx⟩
    · rw [hold id hi] at hL
      exact (hR.blk id L cs rw esz hg' hL).mono hle rfl
    · cases hx
      obtain ⟨k, _, hk, hk2, hk3, hk4⟩ := hnew j b' L hj hbj hL
      have B := R1.blk k L _ _ _ hk2 hk
      have hs := R1.sz k _ L hk2 hk
      obtain ⟨c1, ccs, e, fz, c2, c3, c4, c5, c6⟩ := B.cell (by rw [hs]; exact hk3)
      refine .inl ⟨hk3, c1, ccs, e, fz, c2, c3, c4, fun i v hi => ?_, c6⟩
      obtain ⟨c, d1, d2⟩ := c5 i v hi
      exact ⟨c, d1, (hk4 v (List.mem_of_getElem? hi)).rel d2⟩
  · intro i j L M cs esz cs' rw' esz' hi hj hij hL hM
    rcases hsplit i _ hi with ⟨hi1, hi2⟩ | ⟨j1, b1, rfl, hj1, hbj1, hx1⟩
    · rw [hold i hi1] at hL
      rcases hsplit j _ hj with ⟨hk1, hk2⟩ | ⟨j2, b2, rfl, hj2, hbj2, hx2⟩
      · rw [hold j hk1] at hM
        exact hR.exc i j L M cs esz cs' rw' esz' hi2 hk2 hij hL hM
      · obtain ⟨k, _, hk, _⟩ := hnew j2 b2 M hj2 hbj2 hM
        have := hlo k M hk
        have := (R.blk i L _ _ _ hi2 hL).lt
        omega
    · obtain ⟨k1, g1, hk1, e1, _⟩ := hnew j1 b1 L hj1 hbj1 hL
      rcases hsplit j _ hj with ⟨hk1', hk2⟩ | ⟨j2, b2, rfl, hj2, hbj2, hx2⟩
      · rw [hold j hk1'] at hM
        have := hlo k1 L hk1
        have := (R.blk j M _ _ _ hk2 hM).lt
        omega
      · obtain ⟨k2, g2, hk2, e2, _⟩ := hnew j2 b2 M hj2 hbj2 hM
        cases hx1
        cases hx2
        refine R1.exc k1 k2 L M _ _ _ _ _ e1 e2 (fun hh => hij ?_) hk1 hk2
        subst hh
        obtain ⟨q1, q2⟩ := List.getElem?_eq_some_iff.1 g1
        obtain ⟨q3, q4⟩ := List.getElem?_eq_some_iff.1 g2
        have := (List.getElem_inj (h₀ := q1) (h₁ := q3) hnd).1 (q2.trans q4.symm)
        omega
end
end Go.Ab


/- Maps from ints to ints: steps. -/
namespace Go.Ab
set_option linter.unusedSectionVars false
set_option linter.unusedVariables false

abbrev zII : ESz := ⟨1001001, none⟩
abbrev zIt : ESz := ⟨2000000, none⟩
/-- The entries' cells. -/
def prI (es : List (Int × Int)) : List SV := (es.map fun p => [.int .i64 p.1, .int .i64 p.2]).flatten
abbrev MB (es : List (Int × Int)) : Blk := .cells (prI es) true zII
theorem prI_len (es : List (Int × Int)) : (prI es).length = es.length * 2 := by
  induction es with
  | nil => rfl
  | cons p es ih => simp only [prI, List.map_cons, List.flatten_cons, List.length_append, List.length_cons, List.length_nil] at *; omega
theorem prI_app (a b : List (Int × Int)) : prI (a ++ b) = prI a ++ prI b := by simp [prI]
theorem prI_drop : ∀ (es : List (Int × Int)) (i : Nat) (p : Int × Int), es[i]? = some p → (prI es).drop (i * 2) = .int .i64 p.1 :: .int .i64 p.2 :: prI (es.drop (i + 1))
  | [], i, p, h => by simp at h
  | q :: es, 0, p, h => by simp at h; subst h; rfl
  | q :: es, i + 1, p, h => by
    rw [List.getElem?_cons_succ] at h
    have := prI_drop es i p h
    have e : prI (q :: es) = .int .i64 q.1 :: .int .i64 q.2 :: prI es := rfl
    rw [e, show (i + 1) * 2 = i * 2 + 1 + 1 by omega, List.drop_succ_cons, List.drop_succ_cons, this, List.drop_succ_cons]
theorem kwII : zII.kw = 1 := by decide
theorem vwII : zII.vw = 1 := by decide
theorem entK_II {es : List (Int × Int)} {i : Nat} {p : Int × Int} (h : es[i]? = some p) : entK zII (prI es) i = [.int .i64 p.1] := by
  unfold entK
  rw [kwII, vwII, prI_drop es i p h]; rfl
theorem entV_II {es : List (Int × Int)} {i : Nat} {p : Int × Int} (h : es[i]? = some p) : entV zII (prI es) i = [.int .i64 p.2] := by
  unfold entV
  rw [kwII, vwII, ← List.drop_drop, prI_drop es i p h]; rfl
theorem lenII (es : List (Int × Int)) : (prI es).length / (zII.kw + zII.vw) = es.length := by
  rw [kwII, vwII, prI_len]; omega
theorem keysII (es : List (Int × Int)) : keysI zII (prI es) = es.map fun p => [p.1] := by
  unfold keysI
  rw [lenII]
  refine List.ext_getElem? fun i => ?_
  by_cases hi : i < es.length
  · have hg : es[i]? = some es[i] := List.getElem?_eq_getElem hi
    simp only [List.getElem?_map, List.getElem?_range hi, hg, Option.map_some, entK_II hg]
    rfl
  · rw [List.getElem?_eq_none (by simp; omega), List.getElem?_eq_none (by simp; omega)]
/-- What a key holds. -/
def getI (es : List (Int × Int)) (k : Int) : Option Int := (es.find? fun p => p.1 == k).map (·.2)
theorem findII (es : List (Int × Int)) (k : Int) : findI zII (prI es) [k] = es.findIdx? fun p => p.1 == k := by
  unfold findI
  rw [keysII, List.findIdx?_map]
  congr 1
  funext p
  simp
theorem findIdx_getI : ∀ (es : List (Int × Int)) (k : Int), match es.findIdx? (fun p => p.1 == k) with
    | some j => ∃ p, es[j]? = some p ∧ p.1 = k ∧ getI es k = some p.2
    | none => getI es k = none
  | [], k => rfl
  | q :: es, k => by
    rw [List.findIdx?_cons]
    by_cases h : (q.1 == k) = true
    · rw [if_pos h]
      exact ⟨q, rfl, by simpa using h, by unfold getI; rw [List.find?_cons, h]; rfl⟩
    · rw [if_neg h]
      have ih := findIdx_getI es k
      have e : getI (q :: es) k = getI es k := by
        unfold getI
        rw [List.find?_cons]
        simp only [h]
      rw [e]
      cases hf : es.findIdx? (fun p => p.1 == k) with
      | none => rw [hf] at ih; exact ih
      | some j =>
        rw [hf] at ih
        obtain ⟨p, a, b, c⟩ := ih
        exact ⟨p, by simpa using a, b, c⟩
section
variable {FT : FuncId → Option AFun} {HK : FuncId → Option Hook} {E : Env} {h0 L : Heap} {K : Env → Heap → Prop} {d : Option Nat} {r : List AOp} {x y v : AO}
theorem k_mpM (hw : wOps FT HK r (bindE d (some (.sc (.mapv (h0.length + L.length)))) E) (h0 ++ (L ++ [MB []])) K) : wOps FT HK (⟨d, .mpM zII, none⟩ :: r) E (h0 ++ L) K := by
  refine op_ok (v := some (.sc (.mapv (h0.length + L.length)))) (h' := h0 ++ (L ++ [MB []])) rfl rfl ?_ hw
  simp only [step1]
  rw [if_pos (by decide)]
  simp [prI]
theorem k_mpL {k : Nat} {es : List (Int × Int)} {n : Int} {o : Option Int} (hx : evS E x = some (.mapv (h0.length + k))) (hL : L[k]? = some (MB es)) (hy : ev E y = some (.sc (.int .i64 n))) (ho : getI es n = o)
    (hw : wOps FT HK r (bindE d (some (.tup [.sc (.int .i64 (o.getD 0)), .sc (.bool o.isSome)])) E) (h0 ++ L) K) : wOps FT HK (⟨d, .mpL zII [.int .i64 0] true x y, none⟩ :: r) E (h0 ++ L) K := by
  refine op_ok rfl rfl ?_ hw
  have hg : (h0 ++ L)[h0.length + k]? = some (MB es) := by rw [get_app]; exact hL
  have hi : intsOf [.int .i64 n] = some [n] := rfl
  simp only [step1, hx, hg, if_true, hy, mpOK, Option.bind_some, hi, findII]
  rw [if_pos (show [n].length = zII.kw by rw [kwII]; rfl)]
  have := findIdx_getI es n
  subst ho
  cases hf : es.findIdx? (fun p => p.1 == n) with
  | none => rw [hf] at this; simp only [] at this; rw [this]; rfl
  | some j =>
    rw [hf] at this
    obtain ⟨p, a, b, c⟩ := this
    rw [c]
    simp only [entV_II a]
    rfl
theorem k_mpU {k : Nat} {es : List (Int × Int)} {n m : Int} (hx : evS E x = some (.mapv (h0.length + k))) (hL : L[k]? = some (MB es)) (hy : ev E y = some (.sc (.int .i64 n))) (hv : ev E v = some (.sc (.int .i64 m))) (ho : getI es n = none)
    (hw : wOps FT HK r (bindE d none E) (h0 ++ L.set k (MB (es ++ [(n, m)]))) K) : wOps FT HK (⟨d, .mpU zII x y v, none⟩ :: r) E (h0 ++ L) K := by
  refine op_ok (v := none) (h' := h0 ++ L.set k (MB (es ++ [(n, m)]))) rfl rfl ?_ hw
  have hg : (h0 ++ L)[h0.length + k]? = some (MB es) := by rw [get_app]; exact hL
  have hi : intsOf [.int .i64 n] = some [n] := rfl
  have hn : es.findIdx? (fun p => p.1 == n) = none := by
    have := findIdx_getI es n
    cases hf : es.findIdx? (fun p => p.1 == n) with
    | none => rfl
    | some j => rw [hf] at this; obtain ⟨p, -, -, c⟩ := this; rw [ho] at c; cases c
  simp only [step1, hx, hg, if_true, hy, hv, mpOK, Option.bind_some, hi, findII, hn]
  have hp : prI (es ++ [(n, m)]) = prI es ++ [.int .i64 n] ++ [.int .i64 m] := by simp [prI]
  rw [if_pos (⟨by rw [kwII]; rfl, by rw [vwII]; rfl⟩ : [n].length = zII.kw ∧ [SV.int IntKind.i64 m].length = zII.vw), set_app, ← hp]
theorem k_mpR {k : Nat} {es : List (Int × Int)} (hx : evS E x = some (.mapv (h0.length + k))) (hL : L[k]? = some (MB es))
    (hw : wOps FT HK r (bindE d (some (.sc (.itv (h0.length + L.length)))) E) (h0 ++ (L ++ [.cells (iterB (h0.length + k) es.length []) true zIt])) K) : wOps FT HK (⟨d, .mpR x, none⟩ :: r) E (h0 ++ L) K := by
  refine op_ok rfl rfl ?_ hw
  have hg : (h0 ++ L)[h0.length + k]? = some (MB es) := by rw [get_app]; exact hL
  simp only [step1, hx, hg, lenII, List.length_append, List.append_assoc]
  rfl
theorem k_mpT {k m : Nat} {es : List (Int × Int)} {seen : List Nat} {i : Nat} {p : Int × Int} {len : Nat} (hx : evS E x = some (.itv (h0.length + k))) (hL : L[k]? = some (.cells (iterB (h0.length + m) len (seen ++ [i])) true zIt)) (hM : L[m]? = some (MB es)) (hl : es.length = len) (hp : es[i]? = some p)
    (hw : wOps FT HK r (bindE d (some (.tup [.sc (.int .i64 p.1), .sc (.int .i64 p.2)])) E) (h0 ++ L) K) : wOps FT HK (⟨d, .mpT x, none⟩ :: r) E (h0 ++ L) K := by
  refine op_ok rfl rfl ?_ hw
  have hg : (h0 ++ L)[h0.length + k]? = some (.cells (iterB (h0.length + m) len (seen ++ [i])) true zIt) := by rw [get_app]; exact hL
  have hg2 : (h0 ++ L)[h0.length + m]? = some (MB es) := by rw [get_app]; exact hM
  have hs : (seenV (seen ++ [i])).getLast? = some (.int .i64 (i : Nat)) := by simp [seenV]
  have hil := (List.getElem?_eq_some_iff.1 hp).1
  simp only [step1, hx, hg, iterB, hs, hg2, lenII]
  rw [if_pos ⟨by omega, by omega, by simpa using hil⟩]
  simp only [Int.toNat_natCast, entK_II hp, entV_II hp]
  rfl
end
section
variable [Base] {P : Program} {n : Nat} {E : Env} {h0 L : Heap} {Q : Ex → Env → Heap → Prop}
/-- The next entry of a map from ints to ints. -/
theorem RW.nextII {FT : FuncId → Option AFun} {HK : FuncId → Option Hook} (ok : FTok P FT) (hk : HKok P HK) {t1 : Nat} {x : AO} {rest : List AOp} {ks : List Nat} {it m : Nat} {es : List (Int × Int)} {seen : List Nat}
    (hx : evS E x = some (.itv (h0.length + it))) (hi : L[it]? = some (.cells (iterB (h0.length + m) es.length seen) true zIt)) (hm : L[m]? = some (MB es))
    (hN : (∀ i, i < es.length → i ∈ seen) → wOps FT HK rest (bindE (some t1) (some (.tup [.sc (.bool false)])) E) (h0 ++ L) fun E' h' => Q .nm (E'.keep ks) h')
    (hS : ∀ i p, es[i]? = some p → i ∉ seen → wOps FT HK rest (bindE (some t1) (some (.tup [.sc (.bool true), .sc (.int .i64 p.1), .sc (.int .i64 p.2)])) E) (h0 ++ L.set it (.cells (iterB (h0.length + m) es.length (seen ++ [i])) true zIt)) fun E' h' => Q .nm (E'.keep ks) h') :
    RW P n (.reg (⟨some t1, .mpX x, none⟩ :: rest) ks) E (h0 ++ L) Q := by
  refine RW.next ok hk (it := h0.length + it) (m := h0.length + m) (k := es.length) (seen := seen) (cs := prI es) (z := zII) (zi := zIt) hx (by rw [get_app]; exact hi) (by rw [get_app]; exact hm) (lenII es) hN ?_
  intro i hil hns
  have hg : es[i]? = some es[i] := List.getElem?_eq_getElem hil
  have := hS i _ hg hns
  rw [entK_II hg, entV_II hg, set_app]
  exact this
end
end Go.Ab

