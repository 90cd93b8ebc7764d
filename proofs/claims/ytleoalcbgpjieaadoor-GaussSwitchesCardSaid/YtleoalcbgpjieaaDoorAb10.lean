import Derived.Laws.BytesString
import Derived.Test.YtleoalcbgpjieaaDoorAb8
import Derived.Lib.UnsafeStr
import Derived.Lib.ConvBytes
import Derived.Laws.AppendOwn
import Derived.Orders
/- append. -/
namespace Go.Ab
variable [Base]
set_option linter.unusedSectionVars false
set_option linter.unusedVariables false
variable {P : Program} {β : Bt} {E : Env} {h : Heap} {w : World} {a : Act}

/-- What is appended. -/
theorem src_run {esz m : Nat} {vs : List SV} {x : SV} {q : Value} (R : Rep β h w) (hx : SRel β x q) (hs : srcCells h esz x = some (m, vs)) :
    ∃ ws : List Value, F2 (SRel β) vs ws ∧ ws.length = m * esz ∧ ∀ w' : World, w'.heap = w.heap → (Builtin.lenOf q).run P w' = .ok m w' ∧ (Builtin.firstCells esz m q).run P w' = .ok ws.toArray w' := by
  unfold srcCells at hs
  split at hs
  · simp at hs
    obtain ⟨rfl, rfl⟩ := hs
    cases hx
    exact ⟨[], .nil, by simp, fun w' _ => ⟨by simp [Builtin.lenOf], by simp [Builtin.firstCells]⟩⟩
  · rename_i id off n cap
    split at hs
    · rename_i hn0
      subst hn0
      simp at hs
      obtain ⟨rfl, rfl⟩ := hs
      cases hx
      exact ⟨[], .nil, by simp, fun w' _ => ⟨by simp [Builtin.lenOf], by simp [Builtin.firstCells, loadCells, loadCellsFrom]⟩⟩
    simp only [Option.map_eq_some_iff, Prod.mk.injEq] at hs
    obtain ⟨us, hus, rfl, rfl⟩ := hs
    cases hx with
    | slc hL hc hl ho hb =>
      rename_i L c ad
      obtain ⟨ws, e1, e2, e3⟩ := read_cells R hL hus
      refine ⟨ws, e1, e2, fun w' hw' => ⟨by simp [Builtin.lenOf], ?_⟩⟩
      by_cases h0 : n = 0
      · subst h0
        have : ws = [] := by simpa using e2
        subst this
        simp [Builtin.firstCells, loadCells, loadCellsFrom]
      · have := ho (by omega)
        subst this
        simp only [Builtin.firstCells]
        have hrun := loadCells_run (P := P) (w := w') (b := L.b) (o := L.base + off) (ws := ws) fun j v hj => by
          have := e3 j v hj
          rw [← this]
          simp [World.cell?, hw']
        rw [e2] at hrun
        exact hrun
  · rename_i s
    split at hs
    · rename_i he
      subst he
      simp at hs
      obtain ⟨rfl, rfl⟩ := hs
      cases hx
      refine ⟨s.data.toList.map fun b => Value.int .u8 b.toNat, ?_, by simp, fun w' _ => ⟨by simp [Builtin.lenOf], ?_⟩⟩
      · refine F2.of_get (by simp) fun i x y hx hy => ?_
        simp at hx hy
        obtain ⟨b, hb, rfl⟩ := hx
        rw [hb] at hy
        simp at hy
        subst hy
        exact .int _ _
      · simp only [Builtin.firstCells, Sem.run_pure]
        congr 1
        apply Array.ext'
        have : (s.extract 0 s.size).data = s.data := by simp [ByteArray.extract_zero_size]
        simp
    · simp at hs
  · simp at hs

section
variable {t u ty e : TypeId} {bytes : Nat} {ti : TypeInfo} {z : Value} {q : Value} {m : Nat} {ws : List Value} {d : TypeDesc}

theorem app_fit (hu : P.underlying t = some (.slice e)) (hd : P.underlying u = some d) (hnz : ∀ k, d ≠ .int k) (hi : P.info? e = some ti)
    (hq1 : (Builtin.lenOf q).run P w = .ok m w) (hq2 : (Builtin.firstCells ti.size m q).run P w = .ok ws.toArray w) {base : Option Addr} {n c : Nat} (hfit : n + m ≤ c)
    {w' : World} (hst : ∀ b, base = some b → (storeCells (b.add (n * ti.size)) ws).run P w = .ok () w') (hno : base = none → w' = w) :
    (Builtin.append_ #[t, u] ty #[.slice base n c, q]).run P w = .ok (.slice base (n + m) c) w' := by
  have hz : (match d with | .int _ => true | _ => false) = false := by
    cases d <;> first | rfl | exact absurd rfl (hnz _)
  cases base with
  | none =>
    have := hno rfl
    subst this
    simp [Builtin.append_, run_und hu, run_und hd, sizeOf, typeInfo, hi, hq1, hq2, hfit]
  | some b =>
    have := hst b rfl
    simp [Builtin.append_, run_und hu, run_und hd, sizeOf, typeInfo, hi, hq1, hq2, hfit, this]

theorem app_grow (hu : P.underlying t = some (.slice e)) (hd : P.underlying u = some d) (hnz : ∀ k, d ≠ .int k) (hi : P.info? e = some ti) (hz : ti.zero = some z)
    (hq : ∀ w' : World, w'.heap = w.heap → (Builtin.lenOf q).run P w' = .ok m w' ∧ (Builtin.firstCells ti.size m q).run P w' = .ok ws.toArray w') {base : Option Addr} {n c : Nat} (hg : c < n + m)
    {os : List Value} (ho : ∀ w' : World, w'.heap = w.heap → (Builtin.firstCells ti.size n (.slice base n c)).run P w' = .ok os.toArray w')
    (hb : (n + m) * (ti.bytes + 1) ≤ bigN) :
    (Builtin.append_ #[t, u] ty #[.slice base n c, q]).run P w =
      .ok (.slice (some ⟨w.heap.size, 0, none⟩) (n + m) (grownCap w (n + m) c e)) (w.drew.alloc (.cells (os.toArray ++ ws.toArray ++ Builtin.zeroCells z.cells (grownCap w (n + m) c e - (n + m))) e)) := by
  have hz' : (match d with | .int _ => true | _ => false) = false := by
    cases d <;> first | rfl | exact absurd rfl (hnz _)
  have hbig : bigN = 1099511627776 := rfl
  rw [Nat.mul_add, Nat.mul_one, hbig] at hb
  have hn : ¬ (n + m ≤ c) := by omega
  have h63 : ¬ (9223372036854775807 < ((n : Int) + (m : Int))) := by omega
  have h48 : ¬ (281474976710656 < Builtin.nextslicecap (n + m) c * ti.bytes) := by
    have := growslice_fits (need := n + m) (old := c) (bytes := ti.bytes) hg (by omega)
    omega
  have q1 := (hq w rfl).1
  have q2 := (hq w.drew rfl).2
  have q3 := ho w.drew rfl
  simp [Builtin.append_, run_und hu, run_und hd, sizeOf, typeInfo, zeroValue, hi, hz, hn, h63, h48, Question.forced, q1, q2, q3, newRow, grownCap]
  congr 2
  apply Array.ext'
  simp
end

theorem alloc_drew (w : World) (o : Obj) : w.drew.alloc o = { w.alloc o with drawn := w.drawn + 1 } := rfl

/-- A grown row. -/
theorem grow_out {cs vs : List SV} {os ws : List Value} {esz : ESz} {n m : Nat} {zero : List SV} {z : Value} (R : Rep β h w) (hf : β h.length = none) (e : TypeId) (hty : TyOk esz e) (hlow : esz.n < 1000000) (hnt : esz.n ≠ 0) (cap : Nat)
    (ho : F2 (SRel β) cs os) (hv : F2 (SRel β) vs ws) (hol : os.length = n * esz.n) (hwl : ws.length = m * esz.n) (hz : F2 (SRel β) zero z.cells.toList) (hzl : zero.length = esz.n) (hcap : n + m ≤ cap) :
    ∃ L : Loc, L.b = w.heap.size ∧ L.base = 0 ∧ L.esz = esz ∧ cap * L.esz.n ≤ L.sz ∧
      Stp β h w (upd β h.length L) (h ++ [.cells (cs ++ vs) true esz]) (w.drew.alloc (.cells (os.toArray ++ ws.toArray ++ Builtin.zeroCells z.cells (cap - (n + m))) e)) ∧
      Rep (upd β h.length L) (h ++ [.cells (cs ++ vs) true esz]) (w.drew.alloc (.cells (os.toArray ++ ws.toArray ++ Builtin.zeroCells z.cells (cap - (n + m))) e)) := by
  have hzs : z.cells.size = esz.n := by have := hz.length; simp at this; omega
  have hsz : (os.toArray ++ ws.toArray ++ Builtin.zeroCells z.cells (cap - (n + m))).size = cap * esz.n := by
    simp [size_zeroCells, hol, hwl, hzs, ← Nat.add_mul]
    congr 1
    omega
  have hl := ho.length
  have hl2 := hv.length
  have hfit : (n + m) * esz.n ≤ cap * esz.n := Nat.mul_le_mul_right _ hcap
  obtain ⟨q1, q2⟩ := alloc_done R hf (os.toArray ++ ws.toArray ++ Builtin.zeroCells z.cells (cap - (n + m))) e (cs ++ vs) esz hty hlow (fun h0 => absurd h0 hnt)
    (by rw [hsz]; simp; rw [Nat.add_mul] at hfit; omega) (fun i v hi => by
      obtain ⟨c, k1, k2⟩ := (ho.append hv).get hi
      refine ⟨c, ?_, k2⟩
      have hlt : i < (os ++ ws).length := (List.getElem?_eq_some_iff.1 k1).1
      rw [Array.getElem?_append_left (by simpa using hlt)]
      rw [← k1]
      simp)
  refine ⟨⟨w.heap.size, 0, (os.toArray ++ ws.toArray ++ Builtin.zeroCells z.cells (cap - (n + m))).size, esz⟩, rfl, rfl, rfl, Nat.le_of_eq hsz.symm, ?_, ?_⟩
  · rw [alloc_drew]
    exact ⟨q1.ext, q1.dom, q1.full, q1.len, q1.own, q1.new, q1.frame, q1.size, q1.os, q1.tape, q1.output⟩
  · rw [alloc_drew]; exact q2.drawn _

theorem Stp.len_eq {β h w β' h' w'} (q : Stp β h w β' h' w') : h.length ≤ h'.length := q.len

theorem s_app {esz : ESz} {bytes : Nat} {zero : List SV} {x y : AO} {o : Oper} {v : Option AV} {h' : Heap} (hok : okOp P (.app esz bytes zero x y) o.op = true) (hE : ERel β E a.tmps) (R : Rep β h w) (hf : fresh β h h')
    (hs : step1 E h (.app esz bytes zero x y) = some (v, h')) : Out1 β h w ((execOp a.eval o).run P w) v h' := by
  cases hop : o.op <;> rw [hop] at hok <;> simp only [okOp, Bool.false_eq_true] at hok
  rename_i c
  obtain ⟨callee, args, argTypes⟩ := c
  split at hok
  case h_2 => simp at hok
  rename_i x' y' t u hc ha ht
  simp only at hc ha ht
  have ha' : args = #[x', y'] := by rw [← Array.toArray_toList (xs := args), ha]
  have ht' : argTypes = #[t, u] := by rw [← Array.toArray_toList (xs := argTypes), ht]
  subst hc ha' ht'
  simp only [Bool.and_eq_true, Bool.not_eq_true'] at hok
  obtain ⟨⟨⟨⟨⟨k1, k2⟩, k3⟩, k4⟩, k0⟩, k5⟩ := hok
  obtain ⟨e, hu, hg⟩ := elIs_some k5
  simp at hg
  obtain ⟨⟨⟨⟨hsz, hby⟩, hzero⟩, hze⟩, hty⟩ := hg
  have hty' := tyIs_ok hty
  have hnt := eszOk_ne k0
  have hpos := eszOk_pos k0
  have hlow := eszOk_low k0
  obtain ⟨en, ety⟩ := esz
  simp only at hsz hze hs hty' hnt hpos hlow
  subst hze
  obtain ⟨ti, z, hi, hz, hcz⟩ := zeroIs_some hzero
  have hzr := okCells_rel (β := β) hcz
  have hs1 : ti.size = zero.length := by simpa [szIs, hi] using hsz
  have hs2 : ti.bytes = bytes := by simpa [byIs, hi] using hby
  subst hs2
  obtain ⟨d, hd⟩ := Option.isSome_iff_exists.1 k3
  have hnz : ∀ k, d ≠ .int k := fun k hk => by subst hk; simp [intIs, hd] at k4
  simp only [step1, Option.bind_eq_some_iff, Option.map_eq_some_iff, Prod.mk.injEq] at hs
  obtain ⟨s, hps, t', hpt, ⟨m, vs⟩, hsrc, ⟨s', h1⟩, happ, rfl, rfl⟩ := hs
  have r1 := evS_rel k1 hE hps
  have r2 := evS_rel k2 hE hpt
  obtain ⟨ws, w1, w2, w3⟩ := src_run (P := P) R r2 hsrc
  have hvl := w1.length
  -- the run of the operation is that of append
  have key : ∀ {c w'}, (Builtin.append_ #[t, u] o.type #[a.eval x', a.eval y']).run P w = .ok c w' → (execOp a.eval o).run P w = .ok (.value c) w' := by
    intro c w' hr
    simp [execOp, hop, resolve, invoke, builtin, hr]
  generalize hpv : a.eval x' = pv at r1 key
  rw [← hs1] at w2 w3
  have hF0 : ∀ w' : World, w'.heap = w.heap → (Builtin.firstCells ti.size 0 (.slice none 0 0)).run P w' = .ok ([] : List Value).toArray w' := fun w' _ => by simp [Builtin.firstCells]
  unfold appS at happ
  split at happ
  · split at happ
    · rename_i hm0
      subst hm0
      simp at happ
      obtain ⟨rfl, rfl⟩ := happ
      cases r1
      exact out_pure R (key (app_fit hu hd hnz hi (w3 w rfl).1 (w3 w rfl).2 (base := none) (n := 0) (c := 0) (by simp) (w' := w) (by simp) (fun _ => rfl))) (.sc .nilS)
    · rename_i hm0
      split at happ
      · rename_i hb
        simp at happ
        obtain ⟨rfl, rfl⟩ := happ
        cases r1
        have hg := app_grow (ty := o.type) hu hd hnz hi hz w3 (base := none) (n := 0) (c := 0) (by omega) hF0 (by simpa using hb)
        obtain ⟨L, l1, l2, l3, l4, q1, q2⟩ := grow_out (n := 0) (m := m) R hf.one e hty' hlow hnt (grownCap w (0 + m) 0 e) .nil w1 (by simp) (by rw [w2, hs1]) hzr rfl (grownCap_ge w (0 + m) 0 e)
        simp only [List.nil_append, Nat.zero_add] at q1 q2 l4 hg
        have hge := grownCap_ge w m 0 e
        refine ⟨_, _, q1, q2, _, key hg, .sc ?_⟩
        exact slc_new l1 l2 hge (fun k hk => by simp at hk) (by rw [l3]; exact hpos) l4
      · simp at happ
  · rename_i id off n cap
    split at happ
    · rename_i hm0
      subst hm0
      simp at happ
      obtain ⟨rfl, rfl⟩ := happ
      have hws : ws = [] := by simpa using w2
      subst hws
      cases r1 with
      | slc hL hc hl ho hb =>
        exact out_pure R (key (app_fit hu hd hnz hi (w3 w rfl).1 (w3 w rfl).2 (by omega) (w' := w) (fun b _ => by simp [storeCells]) (fun _ => rfl))) (.sc (.slc hL hc hl ho hb))
    · rename_i hm0
      split at happ
      case isFalse => simp at happ
      rename_i hbig
      split at happ
      case h_2 => simp at happ
      rename_i cs rw esz hg
      split at happ
      case isFalse => simp at happ
      rename_i he
      subst he
      split at happ
      case h_2 => simp at happ
      rename_i old hcut
      cases r1 with
      | slc hL hc hl ho hb =>
        rename_i L c ad
        have hB := R.blk id L cs rw ⟨zero.length, ety⟩ hg hL
        obtain ⟨ws0, o1, o2, o3⟩ := read_cells R hL (show readN h id off (n * zero.length) = some old by simp [readN, hg, hcut])
        obtain ⟨cu1, cu2, cu3⟩ := cut_some hcut
        -- the cells that are there already
        have hold : ∀ w' : World, w'.heap = w.heap → (Builtin.firstCells ti.size n (.slice (some ad) n c)).run P w' = .ok ws0.toArray w' := by
          intro w' hw'
          by_cases h0 : n = 0
          · subst h0
            have : ws0 = [] := by simpa using o2
            subst this
            simp [Builtin.firstCells, loadCells, loadCellsFrom]
          · have := ho (by omega)
            subst this
            simp only [Builtin.firstCells]
            have hrun := loadCells_run (P := P) (w := w') (b := L.b) (o := L.base + off) (ws := ws0) fun j v hj => by
              have := o3 j v hj
              rw [← this]
              simp [World.cell?, hw']
            rw [o2] at hrun
            rw [hs1]
            exact hrun
        -- it grows
        have grows : c < n + m → β h.length = none → ∀ {h1 : Heap}, Rep β h1 w → Stp β h w β h1 w → h1.length = h.length →
            Out1 β h w ((execOp a.eval o).run P w) (some (.sc (.slc h.length 0 (n + m) none))) (h1 ++ [.cells (old ++ vs) true ⟨zero.length, ety⟩]) := by
          intro hlt hfr0 h1 R1 S1 hlen
          have hgr := app_grow (ty := o.type) hu hd hnz hi hz w3 hlt hold hbig
          have hfr : β h1.length = none := by rw [hlen]; exact hfr0
          obtain ⟨M, l1, l2, l3, l4, q1, q2⟩ := grow_out (n := n) (m := m) R1 hfr e hty' hlow hnt (grownCap w (n + m) c e) o1 w1 o2 (by rw [w2, hs1]) hzr rfl (grownCap_ge w (n + m) c e)
          refine ⟨_, _, S1.trans q1, q2, _, key hgr, .sc ?_⟩
          rw [← hlen]
          exact slc_new l1 l2 (grownCap_ge w (n + m) c e) (fun k hk => by simp at hk) (by rw [l3]; exact hpos) l4
        split at happ
        · rename_i k
          have hck := hc k rfl
          subst hck
          split at happ
          · rename_i hlt
            simp at happ
            obtain ⟨rfl, rfl⟩ := happ
            exact grows hlt hf.one R (Stp.refl _ _ _) rfl
          · rename_i hlt
            simp only [Option.map_eq_some_iff, Prod.mk.injEq] at happ
            obtain ⟨h1, hw, rfl, rfl⟩ := happ
            have ho' := ho (by omega)
            subst ho'
            obtain ⟨w', q1, q2, q3⟩ := store_done (P := P) R hL w1 hw
            have hrun := app_fit (ty := o.type) hu hd hnz hi (w3 w rfl).1 (w3 w rfl).2 (base := some ⟨L.b, L.base + off, none⟩) (n := n) (c := c) (by omega) (w' := w') (fun b hb => by
              simp at hb; subst hb
              rw [Addr.add_off, hs1, Nat.add_assoc]
              exact q1) (fun hb => by simp at hb)
            exact ⟨β, w', q2, q3, _, key hrun, .sc (.slc hL hc (by omega) ho hb)⟩
        · split at happ
          case isFalse => simp at happ
          rename_i hrw
          simp at happ
          obtain ⟨rfl, rfl⟩ := happ
          have hid : id < h.length := (List.getElem?_eq_some_iff.1 hg).1
          have hfr0 : β h.length = none := hf h.length (Nat.le_refl _) (by simp)
          obtain rfl := hrw.1
          by_cases hlt : c < n + m
          · obtain ⟨q1, q2⟩ := kill_done R hg
            exact grows hlt hfr0 q2 q1 (by simp)
          · have ho' := ho (by omega)
            obtain ⟨hbp, hb⟩ := hb (by omega)
            subst ho'
            obtain ⟨b1, ccs, be, fz, b2, b3, b4, b5, b6, -, b8⟩ := hB
            have := b6 rfl
            subst this
            have hnb : ety = none ∨ L.base + off = 0 := by
              cases hety : ety with
              | none => exact .inl rfl
              | some t0 =>
                have h1 := (b8.1 t0 hety).1
                rcases hrw.2 with h2 | h2
                · simp [hety] at h2
                · exact .inr (by omega)
            have hl1 := o1.length
            have hl2 := w1.length
            have hmul : n * L.esz.n + m * L.esz.n ≤ c * L.esz.n := by rw [← Nat.add_mul]; exact Nat.mul_le_mul_right _ (by omega)
            have hwl : ws.length = m * zero.length := by rw [w2, hs1]
            rw [b1] at hmul hb
            simp only at hmul hb
            have hst := run_storeCells_at P L.b (L.base + off + n * zero.length) be ws 0 ccs w b2 (by omega) w1.oneCell
            have hfit : L.base + off + n * zero.length + ws.length ≤ ccs.toList.length := by have hcl : ccs.toList.length = ccs.size := Array.length_toList; omega
            obtain ⟨q1, q2⟩ := adopt_done R hfr0 hg hL (ccs.toList.take (L.base + off + n * zero.length + 0) ++ ws ++ ccs.toList.drop (L.base + off + n * zero.length + 0 + ws.length)).toArray (L.base + off) hlow hnt hnb (old ++ vs)
              (by simp; omega) (by simp; omega) (fun i v hi => by
                simp only [List.getElem?_toArray, Nat.add_zero]
                rw [spliceV_get _ _ _ hfit]
                by_cases c1 : i < n * zero.length
                · rw [List.getElem?_append_left (by omega)] at hi
                  obtain ⟨ci, k1, k2⟩ := o1.get hi
                  rw [if_pos (by omega)]
                  refine ⟨ci, ?_, k2⟩
                  have := o3 i ci k1
                  rw [cell_of_row w L.b _ ccs be _ b2] at this
                  rw [Array.getElem?_toList]
                  exact this
                · rw [List.getElem?_append_right (by omega)] at hi
                  obtain ⟨ci, k1, k2⟩ := w1.get hi
                  have hlt2 : i - old.length < ws.length := (List.getElem?_eq_some_iff.1 k1).1
                  rw [if_neg (by omega), if_pos (by omega)]
                  refine ⟨ci, ?_, k2⟩
                  rw [← k1]; congr 1; omega)
            have hrun := app_fit (ty := o.type) hu hd hnz hi (w3 w rfl).1 (w3 w rfl).2 (base := some ⟨L.b, L.base + off, none⟩) (n := n) (c := c) (by omega) (fun b hb => by
              simp at hb; subst hb
              rw [Addr.add_off, hs1]
              exact hst) (fun hb => by simp at hb)
            refine ⟨_, _, q1, q2, _, key hrun, .sc ?_⟩
            exact SRel.slc (L := ⟨L.b, L.base + off, L.sz, ⟨zero.length, ety⟩⟩) (off := 0) (upd_same _ _ _) (fun k hk => by simp at hk) (by omega) (fun _ => rfl) (fun _ => ⟨hpos, hb⟩)
  · simp at happ

/-! ### A string out of the bytes of a block -/
theorem ByteArray.ofList (l : List UInt8) : (⟨l.toArray⟩ : ByteArray).data = l.toArray := rfl

theorem freeze_heap (w : World) {b o n : Nat} {cs : Array Value} {e : TypeId} {fz : Nat × Nat} (hb : w.heap[b]? = some (.cells cs e fz)) : ∃ fz', (w.freeze ⟨b, o, none⟩ n).heap[b]? = some (.cells cs e fz') := by
  unfold World.freeze
  split
  · exact ⟨fz, hb⟩
  · obtain ⟨lo, hi⟩ := fz
    simp only [Array.getElem?_modify, if_true, hb, Option.map_some]
    exact ⟨_, rfl⟩
theorem freeze_other (w : World) {b o n k : Nat} (h : k ≠ b) : (w.freeze ⟨b, o, none⟩ n).heap[k]? = w.heap[k]? := by
  unfold World.freeze
  split
  · rfl
  · simp only [Array.getElem?_modify]
    rw [if_neg (by simpa using Ne.symm h)]
theorem freeze_same (w : World) (a : Addr) (n : Nat) : (w.freeze a n).heap.size = w.heap.size ∧ (w.freeze a n).os = w.os ∧ (w.freeze a n).tape = w.tape ∧ (w.freeze a n).output = w.output := by
  unfold World.freeze
  split
  · exact ⟨rfl, rfl, rfl, rfl⟩
  · exact ⟨by simp, rfl, rfl, rfl⟩

/-- A block is frozen: it is read from now on, and no longer written. -/
theorem freeze_done (R : Rep β h w) {id : Nat} {L : Loc} {cs : List SV} {esz : ESz} (hg : h[id]? = some (.cells cs true esz)) (hL : β id = some L) (o n : Nat) :
    Stp β h w β (h.set id (.cells cs false esz)) (w.freeze ⟨L.b, o, none⟩ n) ∧ Rep β (h.set id (.cells cs false esz)) (w.freeze ⟨L.b, o, none⟩ n) := by
  have hid : id < h.length := (List.getElem?_eq_some_iff.1 hg).1
  have hB := R.blk id L cs true esz hg hL
  obtain ⟨z1, z2, z3, z4⟩ := freeze_same w ⟨L.b, o, none⟩ n
  refine ⟨⟨fun _ _ h => h, fun _ _ h => .inl h, fun i h1 h2 => by simp at h2; omega, by simp, ?_, fun id L h1 h2 => by rw [h1] at h2; simp at h2, ?_, by rw [z1]; exact Nat.le_refl _, z2, z3, z4⟩, ⟨fun i b M hi hM => ?_, ?_, ?_, ⟨by rw [z1]; exact R.keep.1, fun b hb => (freeze_other _ (Nat.ne_of_lt (Nat.lt_of_lt_of_le hb (hB.low rfl)))).trans (R.keep.2 b hb)⟩⟩⟩
  · rintro b ⟨i, M, cs1, e1, hi, hM, rfl⟩
    rw [get_set _ _ _ _ hid] at hi
    split at hi
    · simp at hi
    · exact .inr ⟨i, M, cs1, e1, hi, hM, rfl⟩
  · intro b hb hn
    exact freeze_other w fun e => hn ⟨id, L, cs, esz, hg, hL, e.symm⟩
  · rw [get_set _ _ _ _ hid] at hi
    split at hi
    · rename_i e; subst e; simp at hi; subst hi
      exact (R.sz i _ M hg hM : M.esz = esz)
    · exact R.sz i b M hi hM
  · intro i M cs1 rw1 e1 hi hM
    rw [get_set _ _ _ _ hid] at hi
    split at hi
    · rename_i e; subst e; simp at hi; obtain ⟨rfl, rfl, rfl⟩ := hi
      rw [hL] at hM; simp at hM; subst hM
      obtain ⟨h1, ccs, e, fz, h2, h3, h4, h5, h6, h7⟩ := hB
      obtain ⟨fz', h8⟩ := freeze_heap w (o := o) (n := n) h2
      exact ⟨h1, ccs, e, fz', h8, h3, h4, h5, fun hc => by simp at hc, h7.1, h7.2.1, fun hc => by simp at hc⟩
    · rename_i e
      have hB' := R.blk i M cs1 rw1 e1 hi hM
      have hne : L.b ≠ M.b := R.exc id i L M cs esz cs1 rw1 e1 hg hi (Ne.symm e) hL hM
      exact hB'.mono (fun _ _ h => h) (freeze_other w (Ne.symm hne))
  · intro i j M N cs1 e1 cs2 rw2 e2 hi hj hne hM hN
    rw [get_set _ _ _ _ hid] at hi hj
    split at hi
    · simp at hi
    · split at hj
      · rename_i e; subst e
        exact R.exc i j M N cs1 e1 cs true esz hi hg hne hM hN
      · exact R.exc i j M N cs1 e1 cs2 rw2 e2 hi hj hne hM hN

theorem bytesOf_get : ∀ {vs : List SV} {l : List UInt8}, bytesOf vs = some l → l.length = vs.length ∧ ∀ (j : Nat) (x : UInt8), l[j]? = some x → vs[j]? = some (.int .u8 x.toNat)
  | [], l, h => by simp [bytesOf] at h; subst h; simp
  | .int .u8 v :: r, l, h => by
    simp only [bytesOf] at h
    split at h
    · rename_i hv
      simp only [Option.map_eq_some_iff] at h
      obtain ⟨l', hl', rfl⟩ := h
      obtain ⟨h1, h2⟩ := bytesOf_get hl'
      refine ⟨by simp [h1], fun j x hj => ?_⟩
      cases j with
      | zero => simp at hj; subst hj; simp only [List.getElem?_cons_zero]; rw [← hv]
      | succ j => simpa using h2 j x (by simpa using hj)
    · simp at h
  | v :: r, l, h => by
    unfold bytesOf at h
    split at h
    · rename_i h1; cases h1
    · rename_i v' r' h1
      cases h1
      split at h
      · rename_i hv
        simp only [Option.map_eq_some_iff] at h
        obtain ⟨l', hl', rfl⟩ := h
        obtain ⟨h1, h2⟩ := bytesOf_get hl'
        refine ⟨by simp [h1], fun j x hj => ?_⟩
        cases j with
        | zero => simp at hj; subst hj; simp only [List.getElem?_cons_zero]; rw [← hv]
        | succ j => simpa using h2 j x (by simpa using hj)
      · simp at h
    · simp at h

theorem s_usd {x : AO} {o : Oper} {v : Option AV} {h' : Heap} (hok : okOp P (.usd x) o.op = true) (hE : ERel β E a.tmps) (R : Rep β h w)
    (hs : step1 E h (.usd x) = some (v, h')) : Out1 β h w ((execOp a.eval o).run P w) v h' := by
  cases hop : o.op <;> rw [hop] at hok <;> simp only [okOp, Bool.false_eq_true] at hok
  rename_i c
  obtain ⟨callee, args, argTypes⟩ := c
  split at hok
  case h_2 => simp at hok
  rename_i x' hc ha
  simp only at hc ha
  have ha' : args = #[x'] := by rw [← Array.toArray_toList (xs := args), ha]
  subst hc ha'
  have key : ∀ {c w'}, (Builtin.unsafeSliceData_ argTypes o.type #[a.eval x']).run P w = .ok c w' → (execOp a.eval o).run P w = .ok (.value c) w' := by
    intro c w' hr
    simp [execOp, hop, resolve, invoke, builtin, hr]
  simp only [step1] at hs
  split at hs
  · rename_i id off n cap hp
    split at hs
    · rename_i hn
      simp at hs
      obtain ⟨rfl, rfl⟩ := hs
      have r := evS_rel hok hE hp
      generalize hpv : a.eval x' = pv at r key
      cases r with
      | slc hL hc hl ho hb =>
        rename_i L c ad
        have had := ho (by omega)
        subst had
        exact out_pure R (key (Lib.run_unsafeSliceData_row _ _ _ _ _ _ (by omega))) (.sc (.ptr hL))
    · simp at hs
  · rename_i hp
    simp at hs
    obtain ⟨rfl, rfl⟩ := hs
    have r := evS_rel hok hE hp
    generalize hpv : a.eval x' = pv at r key
    cases r
    exact out_pure R (key (Lib.run_unsafeSliceData_nil _ _ _ _ _)) (.sc .nilP)
  · simp at hs

theorem s_ustr {t : Nat} {x n : AO} {o : Oper} {v : Option AV} {h' : Heap} (hok : okOp P (.ustr t x n) o.op = true) (hE : ERel β E a.tmps) (R : Rep β h w)
    (hs : step1 E h (.ustr t x n) = some (v, h')) : Out1 β h w ((execOp a.eval o).run P w) v h' := by
  cases hop : o.op <;> rw [hop] at hok <;> simp only [okOp, Bool.false_eq_true] at hok
  rename_i c
  obtain ⟨callee, args, argTypes⟩ := c
  split at hok
  case h_2 => simp at hok
  rename_i x' n' u tl hc ha ht
  simp only at hc ha ht
  have ha' : args = #[x', n'] := by rw [← Array.toArray_toList (xs := args), ha]
  have ht' : argTypes = #[u, tl] := by rw [← Array.toArray_toList (xs := argTypes), ht]
  subst hc ha' ht'
  simp only [Bool.and_eq_true] at hok
  obtain ⟨⟨⟨k1, k2⟩, k3⟩, k4⟩ := hok
  have hu : P.underlying u = some (.pointer t) := by
    unfold ptrTo at k3
    split at k3
    · rename_i e he; simp at k3; subst k3; exact he
    · simp at k3
  have hcells : P.cellsOf t = 1 := by
    unfold szIs at k4
    split at k4
    · rename_i i hi; simp at k4; simp [Program.cellsOf, hi, k4]
    · simp at k4
  have key : ∀ {c w'}, (Builtin.unsafeString_ #[u, tl] o.type #[a.eval x', a.eval n']).run P w = .ok c w' → (execOp a.eval o).run P w = .ok (.value c) w' := by
    intro c w' hr
    simp [execOp, hop, resolve, invoke, builtin, hr]
  simp only [step1] at hs
  split at hs
  · rename_i id m hp hn
    split at hs
    · rename_i cs z hg
      split at hs
      · rename_i hcond
        obtain ⟨hm0, hm1, rfl⟩ := hcond
        simp only [Option.bind_eq_some_iff, Option.map_eq_some_iff, Prod.mk.injEq] at hs
        obtain ⟨vs, hcut, l, hl, rfl, rfl⟩ := hs
        have r1 := evS_rel k1 hE hp
        have r2 := evS_rel k2 hE hn
        generalize hpv : a.eval x' = pv at r1 key
        generalize hnv : a.eval n' = nv at r2 key
        cases r2
        cases r1 with
        | ptr hL =>
          rename_i L
          obtain ⟨b1, b2⟩ := bytesOf_get hl
          obtain ⟨c1, c2, c3⟩ := cut_some hcut
          have hlen : l.length = m.toNat := by rw [b1, c2]
          have hm : m = (l.length : Int) := by omega
          obtain ⟨q1, q2⟩ := freeze_done R hg hL (L.base + 0) m.toNat
          obtain ⟨-, ccs, e, fz, h2, h3, h4, h5, -, h7, h8⟩ := R.blk id L cs true _ hg hL
          have he : e = t := h7 t rfl
          subst he
          obtain ⟨hb0, -⟩ := h8.1 e rfl
          rw [hb0] at key q1 q2
          refine ⟨β, _, q1, q2, _, key ?_, .sc (.str _)⟩
          have hcell : ∀ (j : Nat) (x : UInt8), l[j]? = some x → w.cell? ((⟨L.b, 0, none⟩ : Addr).add j) = some (.int .u8 x.toNat) := by
            intro j x hj
            have h8 := b2 j x hj
            obtain ⟨-, h9⟩ := c3 _ _ h8
            obtain ⟨c, h10, h11⟩ := h5 _ _ h9
            cases h11
            rw [Addr.add_off, cell_of_row w L.b _ ccs e fz h2]
            rw [hb0] at h10
            simpa using h10
          have hsh : w.shape? L.b = some (e, ccs.size) := by simp [World.shape?, h2]
          have hrun := Lib.run_unsafeString_row (P := P) w u tl o.type e hu hcells L.b ccs.size hsh l (by intro hnil; subst hnil; simp at hlen; omega) (by omega) (by omega) hcell
          rw [← hm] at hrun
          rw [hlen] at hrun
          exact hrun
      · simp at hs
    · simp at hs
  · rename_i m hp hn
    split at hs
    · rename_i hm
      subst hm
      simp at hs
      obtain ⟨rfl, rfl⟩ := hs
      have r1 := evS_rel k1 hE hp
      have r2 := evS_rel k2 hE hn
      generalize hpv : a.eval x' = pv at r1 key
      generalize hnv : a.eval n' = nv at r2 key
      cases r2
      cases r1
      exact out_pure R (key (Lib.run_unsafeString_none w u tl o.type none)) (.sc (.str _))
    · simp at hs
  · simp at hs

/-! ### The bytes of a string, in a new block that is only read -/
theorem s_cvb {x : AO} {o : Oper} {v : Option AV} {h' : Heap} (hok : okOp P (.cvb x) o.op = true) (hE : ERel β E a.tmps) (R : Rep β h w) (hf : fresh β h h')
    (hs : step1 E h (.cvb x) = some (v, h')) : Out1 β h w ((execOp a.eval o).run P w) v h' := by
  cases hop : o.op <;> rw [hop] at hok <;> simp only [okOp, Bool.false_eq_true] at hok
  rename_i s t x'
  simp only [Bool.and_eq_true] at hok
  obtain ⟨⟨k1, k2⟩, k3⟩ := hok
  have hus := strIs_some k2
  obtain ⟨e, hut, hue⟩ := elIs_some k3
  have hu8 : P.underlying e = some (.int .u8) := by
    unfold u8Is at hue
    split at hue
    · assumption
    · simp at hue
  simp only [step1] at hs
  split at hs
  · rename_i str hp
    simp only [Option.some.injEq, Prod.mk.injEq] at hs
    obtain ⟨rfl, rfl⟩ := hs
    have r1 := evS_rel k1 hE hp
    generalize hpv : a.eval x' = pv at r1
    cases r1
    have hfr : β h.length = none := hf _ (Nat.le_refl _) (by simp)
    have hge := grownCap_ge w str.size 0 e
    have hsz : (Lib.bytesCells w e str).size = grownCap w str.size 0 e := by
      simp only [Lib.bytesCells, Array.size_append, Array.size_map, Array.size_replicate]
      have : str.data.size = str.size := rfl
      omega
    have hrel : ∀ (i : Nat) (v : SV), (str.data.toList.map fun b => SV.int .u8 (b.toNat : Int))[i]? = some v → ∃ c, (Lib.bytesCells w e str)[i]? = some c ∧ SRel β v c := by
      intro i v hi
      rw [List.getElem?_map, Option.map_eq_some_iff] at hi
      obtain ⟨b, hb, rfl⟩ := hi
      have hi' : i < str.data.size := by simpa using (List.getElem?_eq_some_iff.1 hb).1
      refine ⟨.int .u8 b.toNat, ?_, .int _ _⟩
      rw [Array.getElem?_toList] at hb
      unfold Lib.bytesCells
      rw [Array.getElem?_append_left (by simpa using hi'), Array.getElem?_map, hb]; rfl
    obtain ⟨s1, s2⟩ := alloc_done (R.drawn (w.drawn + 1)) hfr (Lib.bytesCells w e str) e (str.data.toList.map fun b => SV.int .u8 (b.toNat : Int)) 1 (fun t ht => by cases ht) (by decide) (fun h => by cases h) (by
      rw [hsz, List.length_map]
      have : str.data.toList.length = str.size := by simp
      omega) hrel
    obtain ⟨f1, f2⟩ := freeze_done s2 (id := h.length) (cs := str.data.toList.map fun b => SV.int .u8 (b.toNat : Int)) (esz := 1) (by simp) (upd_same _ _ _) (Lib.bytesCells w e str).size 1
    have hset : (h ++ [Blk.cells (str.data.toList.map fun b => SV.int .u8 (b.toNat : Int)) true 1]).set h.length (Blk.cells (str.data.toList.map fun b => SV.int .u8 (b.toNat : Int)) false 1) = h ++ [Blk.cells (str.data.toList.map fun b => SV.int .u8 (b.toNat : Int)) false 1] := by
      rw [List.set_append_right _ _ (Nat.le_refl _)]; simp
    rw [hset] at f1 f2
    have s0 : Stp β h w β h { w with drawn := w.drawn + 1 } := ⟨fun _ _ h => h, fun _ _ h => .inl h, fun id h1 h2 => by omega, Nat.le_refl _, fun b hb => .inr hb, fun id L h1 h2 => by rw [h1] at h2; simp at h2, fun _ _ _ => rfl, Nat.le_refl _, rfl, rfl, rfl⟩
    refine ⟨_, _, (s0.trans s1).trans f1, f2, .slice (some ⟨w.heap.size, 0, none⟩) str.size (grownCap w str.size 0 e), ?_, .sc ?_⟩
    · have hr := Lib.run_convert_string_bytes (P := P) w s t e str hus hut hu8
      simp [execOp, hop, hpv, hr, Lib.bytesWorld, World.drew, -World.drew_eq]
    · refine .slc (upd_same _ _ _) (fun k hk => by cases hk) hge (fun _ => rfl) (fun _ => ⟨Nat.le_refl _, ?_⟩)
      simp [hsz]
  · simp at hs

/-! ### The string of bytes that lie in a row -/
theorem push_all : ∀ (l : List UInt8) (s : ByteArray), (l.map fun b => (b.toNat : Int)).foldl (fun r n => r.push (UInt8.ofNat n.toNat)) s = s ++ ⟨l.toArray⟩
  | [], s => by ext1; simp
  | b :: r, s => by
    simp only [List.map_cons, List.foldl_cons]
    rw [push_all r]
    ext1
    simp
theorem s_cbs {x : AO} {o : Oper} {v : Option AV} {h' : Heap} (hok : okOp P (.cbs x) o.op = true) (hE : ERel β E a.tmps) (R : Rep β h w)
    (hs : step1 E h (.cbs x) = some (v, h')) : Out1 β h w ((execOp a.eval o).run P w) v h' := by
  cases hop : o.op <;> rw [hop] at hok <;> simp only [okOp, Bool.false_eq_true] at hok
  rename_i s t x'
  simp only [Bool.and_eq_true] at hok
  obtain ⟨⟨k1, k2⟩, k3⟩ := hok
  have hud := strIs_some k2
  obtain ⟨e, hut, hue⟩ := elIs_some k3
  have hu8 : P.underlying e = some (.int .u8) := by
    unfold u8Is at hue
    split at hue
    · assumption
    · simp at hue
  simp only [step1] at hs
  split at hs
  · rename_i id off n cap hp
    split at hs
    · rename_i hn
      simp only [Option.bind_eq_some_iff, Option.map_eq_some_iff, Prod.mk.injEq] at hs
      obtain ⟨vs, hrd, l, hl, rfl, rfl⟩ := hs
      have r1 := evS_rel k1 hE hp
      generalize hpv : a.eval x' = pv at r1
      cases r1 with
      | slc hL hcp hl' ho hbd =>
        rename_i L c ad
        have had := ho (by omega)
        subst had
        unfold readN at hrd
        split at hrd
        · rename_i cs rw' esz hg
          obtain ⟨h1, ccs, e', fz, h2, h3, h4, h5, h6⟩ := R.blk id L cs rw' esz hg hL
          obtain ⟨c1, c2, c3⟩ := cut_some hrd
          obtain ⟨b1, b2⟩ := bytesOf_get hl
          have hload := loadCells_run (P := P) (w := w) (b := L.b) (o := L.base + off) (ws := (l.map fun b => (b.toNat : Int)).map (Value.int .u8)) (fun j v hj => by
            rw [List.map_map, List.getElem?_map, Option.map_eq_some_iff] at hj
            obtain ⟨b, hb, rfl⟩ := hj
            have hv := b2 j b hb
            obtain ⟨-, hcs⟩ := c3 _ _ hv
            obtain ⟨c0, q1, q2⟩ := h5 _ _ hcs
            cases q2
            rw [cell_of_row w L.b _ ccs e' fz h2, Nat.add_assoc]
            exact q1)
          have hlen : ((l.map fun b => (b.toNat : Int)).map (Value.int .u8)).length = n := by simp [b1, c2]
          rw [hlen] at hload
          have hr := run_bytesToString w ⟨L.b, L.base + off, none⟩ n c _ hload
          rw [push_all, show ByteArray.empty ++ (⟨l.toArray⟩ : ByteArray) = ⟨l.toArray⟩ by ext1; simp] at hr
          refine out_pure R (c := .string ⟨l.toArray⟩) ?_ (.sc (.str _))
          have hcv := run_convert_bytes_string (P := P) w s t e (some ⟨L.b, L.base + off, none⟩) n c hut hu8 hud
          rw [hr] at hcv
          simp [execOp, hop, hpv, hcv]
        · cases hrd
    · simp at hs
  · simp at hs
end Go.Ab


/- Code: what is reckoned here is what the model does. -/
namespace Go.Ab
variable [Base]
set_option linter.unusedSectionVars false
set_option linter.unusedVariables false
variable {P : Program} {β : Bt} {E : Env} {h : Heap} {w : World} {a : Act}

theorem step1_sound {k : AK} {o : Oper} {v : Option AV} {h' : Heap} (hok : okOp P k o.op = true) (hE : ERel β E a.tmps) (R : Rep β h w) (hf : fresh β h h')
    (hs : step1 E h k = some (v, h')) : Out1 β h w ((execOp a.eval o).run P w) v h' := by
  cases k with
  | mv x => exact s_mv hok hE R hs
  | pick c x y => exact s_pick hok hE R hs
  | bin op x y => exact s_bin hok hE R hs
  | beq neg x y => exact s_beq hok hE R hs
  | isnil kd neg x => exact s_isnil hok hE R hs
  | un op x => exact s_un hok hE R hs
  | conv k x => exact s_conv hok hE R hs
  | len str x => exact s_len hok hE R hs
  | mm mx x ys => exact s_mm hok hE R hs
  | idxA esz x i => exact s_idxA hok hE R hs
  | idxP n esz x i => exact s_idxP hok hE R hs
  | idxS x i => exact s_idxS hok hE R hs
  | idxG n esz agg x i => exact s_idxG hok hE R hs
  | fldA off x => exact s_fldA hok hE R hs
  | fld off size agg x => exact s_fld hok hE R hs
  | ld n agg x => exact s_ld hok hE R hs
  | st n y x => exact s_st hok hE R hs
  | new zero => exact s_new hok hE R hf hs
  | box x => exact s_box hok hE R hf hs
  | bld zero parts => exact s_bld hok hE R hs
  | bsl esz zero len parts => exact s_bsl hok hE R hf hs
  | mk esz bytes zero l c => exact s_mk hok hE R hf hs
  | sl esz x lo hi => exact s_sl hok hE R hs
  | slS x lo hi => exact s_slS hok hE R hs
  | app esz bytes zero x y => exact s_app hok hE R hf hs
  | newT t zero => exact s_newT hok hE R hf hs
  | aeq neg n x y => exact s_aeq hok hE R hs
  | peq neg x y => exact s_peq hok hE R hs
  | sl1 x lo hi => exact s_sl1 hok hE R hs
  | usd x => exact s_usd hok hE R hs
  | ustr t x n => exact s_ustr hok hE R hs
  | cvb x => exact s_cvb hok hE R hf hs
  | cbs x => exact s_cbs hok hE R hs
  | veq neg x y => exact s_veq hok hE R hs
  | seq2 neg x y => exact s_seq2 hok hE R hs
  | car sb x y c => exact s_car hok hE R hs
  | bad => simp [step1] at hs
  | call f args => simp [step1] at hs
  | callv x args => simp [step1] at hs
  | ext x i => exact s_ext hok hE R hs
  | mkf f caps => exact s_mkf hok hE R hs
  | nilc x => exact s_nilc hok hE R hs

theorem writeN_len {h h' : Heap} {id off : Nat} {vs : List SV} (hw : writeN h id off vs = some h') : h'.length = h.length := by
  unfold writeN at hw
  split at hw
  · split at hw
    · simp at hw; subst hw; simp
    · simp at hw
  · simp at hw

theorem appS_len {h h' : Heap} {esz : ESz} {bytes m : Nat} {s s' : SV} {vs : List SV} (hs : appS h esz bytes s m vs = some (s', h')) : h.length ≤ h'.length := by
  unfold appS at hs
  split at hs
  · split at hs
    · simp at hs; rw [← hs.2]; exact Nat.le_refl _
    · split at hs
      · simp at hs; rw [← hs.2]; simp
      · simp at hs
  · split at hs
    · simp at hs; rw [← hs.2]; exact Nat.le_refl _
    · split at hs
      · split at hs
        · split at hs
          · split at hs
            · split at hs
              · split at hs
                · simp at hs; rw [← hs.2]; simp
                · simp only [Option.map_eq_some_iff, Prod.mk.injEq] at hs
                  obtain ⟨h1, hw, _, rfl⟩ := hs
                  exact Nat.le_of_eq (writeN_len hw).symm
              · split at hs
                · simp at hs; rw [← hs.2]; simp
                · simp at hs
            · simp at hs
          · simp at hs
        · simp at hs
      · simp at hs
  · simp at hs

theorem step1_len {k : AK} {v : Option AV} {h' : Heap} (hs : step1 E h k = some (v, h')) : h.length ≤ h'.length := by
  cases k <;> simp only [step1, Option.bind_eq_some_iff, Option.map_eq_some_iff, Prod.mk.injEq] at hs
  case st n y x =>
    split at hs
    · simp only [Option.bind_eq_some_iff] at hs
      obtain ⟨u, hu, vs, hvs, hs⟩ := hs
      split at hs
      · simp only [Option.map_eq_some_iff, Prod.mk.injEq] at hs
        obtain ⟨h1, hw, _, rfl⟩ := hs
        exact Nat.le_of_eq (writeN_len hw).symm
      · simp at hs
    · simp at hs
  case app esz bytes zero x y =>
    obtain ⟨s, hps, t', hpt, p, hsrc, r, happ, rfl, rfl⟩ := hs
    exact appS_len happ
  case new zero => simp at hs; rw [← hs.2]; simp
  case newT t zero => simp at hs; rw [← hs.2]; simp
  case bad => simp at hs
  case cvb x =>
    split at hs
    · simp only [Option.some.injEq, Prod.mk.injEq] at hs; rw [← hs.2]; simp
    · simp at hs
  case cbs x =>
    split at hs
    · split at hs
      · simp only [Option.bind_eq_some_iff, Option.map_eq_some_iff, Prod.mk.injEq] at hs
        obtain ⟨_, _, _, _, _, rfl⟩ := hs; exact Nat.le_refl _
      · simp at hs
    · simp at hs
  case usd x =>
    split at hs
    · split at hs
      · simp only [Option.some.injEq, Prod.mk.injEq] at hs; rw [hs.2]; exact Nat.le_refl _
      · simp at hs
    · simp only [Option.some.injEq, Prod.mk.injEq] at hs; rw [hs.2]; exact Nat.le_refl _
    · simp at hs
  case ustr t x n =>
    split at hs
    · split at hs
      · split at hs
        · simp only [Option.bind_eq_some_iff, Option.map_eq_some_iff, Prod.mk.injEq] at hs
          obtain ⟨_, _, _, _, _, rfl⟩ := hs; simp
        · simp at hs
      · simp at hs
    · split at hs
      · simp only [Option.some.injEq, Prod.mk.injEq] at hs; rw [hs.2]; exact Nat.le_refl _
      · simp at hs
    · simp at hs
  case aeq neg n x y =>
    split at hs
    · split at hs
      · simp only [Option.map_eq_some_iff, Prod.mk.injEq] at hs
        obtain ⟨_, _, _, rfl⟩ := hs; exact Nat.le_refl _
      · simp at hs
    · simp at hs
  case box x =>
    obtain ⟨u, hu, cs, hc, rfl, rfl⟩ := hs; simp
  case bsl esz zero len parts =>
    split at hs
    · simp only [Option.bind_eq_some_iff, Option.map_eq_some_iff, Prod.mk.injEq] at hs
      obtain ⟨ps, hps, cs, hfill, rfl, rfl⟩ := hs; simp
    · simp at hs
  case mk esz bytes zero l c =>
    split at hs
    · split at hs
      · simp at hs; rw [← hs.2]; simp
      · simp at hs
    · simp at hs
  case call => simp at hs
  case callv => simp at hs
  case pick c x y =>
    split at hs
    · split at hs
      · simp only [Option.map_eq_some_iff, Prod.mk.injEq] at hs
        obtain ⟨_, _, _, rfl⟩ := hs; exact Nat.le_refl _
      · simp only [Option.map_eq_some_iff, Prod.mk.injEq] at hs
        obtain ⟨_, _, _, rfl⟩ := hs; exact Nat.le_refl _
    · simp at hs
  case idxS x i =>
    split at hs
    · split at hs
      · simp only [Option.map_eq_some_iff, Prod.mk.injEq] at hs
        obtain ⟨_, _, _, rfl⟩ := hs; exact Nat.le_refl _
      · simp at hs
    · simp at hs
  case idxG n esz agg x i =>
    split at hs
    · split at hs
      · simp only [Option.bind_eq_some_iff, Option.map_eq_some_iff, Prod.mk.injEq] at hs
        obtain ⟨_, _, _, _, _, rfl⟩ := hs; exact Nat.le_refl _
      · simp at hs
    · simp at hs
  case fld off size agg x =>
    split at hs
    · simp only [Option.bind_eq_some_iff, Option.map_eq_some_iff, Prod.mk.injEq] at hs
      obtain ⟨_, _, _, _, _, rfl⟩ := hs; exact Nat.le_refl _
    · simp at hs
  case ld n agg x =>
    split at hs
    · simp only [Option.bind_eq_some_iff, Option.map_eq_some_iff, Prod.mk.injEq] at hs
      obtain ⟨_, _, _, _, _, rfl⟩ := hs; exact Nat.le_refl _
    · simp at hs
  case fldA off x =>
    split at hs
    · simp only [Option.some.injEq, Prod.mk.injEq] at hs; rw [hs.2]; exact Nat.le_refl _
    · simp at hs
  case nilc x =>
    split at hs
    · simp only [Option.some.injEq, Prod.mk.injEq] at hs; rw [hs.2]; exact Nat.le_refl _
    · simp only [Option.some.injEq, Prod.mk.injEq] at hs; rw [hs.2]; exact Nat.le_refl _
    · simp at hs
  case slS x lo hi =>
    split at hs
    · simp only [Option.bind_eq_some_iff] at hs
      obtain ⟨l, hl, u, hu', hs⟩ := hs
      split at hs
      · simp only [Option.some.injEq, Prod.mk.injEq] at hs; rw [hs.2]; exact Nat.le_refl _
      · simp at hs
    · simp at hs
  all_goals apply Nat.le_of_eq
  all_goals first
    | (obtain ⟨u, _, _, rfl⟩ := hs; rfl)
    | (obtain ⟨u, _, v, _, _, rfl⟩ := hs; rfl)
    | (obtain ⟨u, _, v, _, x, _, _, rfl⟩ := hs; rfl)
    | (obtain ⟨u, _, v, _, x, _, y, _, _, rfl⟩ := hs; rfl)
    | (obtain ⟨u, _, v, _, x, _, y, _, z, _, _, rfl⟩ := hs; rfl)
    | (split at hs <;> first | (simp at hs; done) | (simp at hs; rw [hs.2]; done) | (simp at hs; obtain ⟨_, _, _, rfl⟩ := hs; rfl) | skip)


/-- Calls. -/
structure CallOK (P : Program) (cf : CF) : Prop where
  len : ∀ f args h v h', cf f args h = some (v, h') → h.length ≤ h'.length
  fn : ∀ f args h r, cf f args h = some r → fnIs P f = true
  run : ∀ f args h v h', cf f args h = some (v, h') → ∀ β w vs, F2 (ARel β) args vs → Rep β h w → fresh β h h' →
    Calls P f vs.toArray w fun e w' => ∃ β' c, e = .returned c ∧ ARel β' v c ∧ Stp β h w β' h' w' ∧ Rep β' h' w'

theorem callFunc_run {f : FuncId} (hf : fnIs P f = true) (args : Array Value) (w : World) : (callFunc f args).run P w = .ok (.enter f args) w := by
  unfold fnIs at hf
  split at hf
  · rename_i fn hfn
    simp at hf
    obtain ⟨h1, h2⟩ := hf
    simp [callFunc, hfn, h2]
    intro hb
    simp [hb] at h1
  · simp at hf

theorem opRun_len {cf : CF} (CO : CallOK P cf) {k : AK} {v : Option AV} {h' : Heap} (hs : opRun cf E h k = some (v, h')) : h.length ≤ h'.length := by
  unfold opRun at hs
  split at hs
  · simp only [Option.bind_eq_some_iff, Option.map_eq_some_iff, Prod.mk.injEq] at hs
    obtain ⟨vs, _, ⟨r, h1⟩, hr, _, rfl⟩ := hs
    exact CO.len _ _ _ _ _ hr
  · split at hs
    · simp only [Option.bind_eq_some_iff, Option.map_eq_some_iff, Prod.mk.injEq] at hs
      obtain ⟨vs, _, ⟨r, h1⟩, hr, _, rfl⟩ := hs
      exact CO.len _ _ _ _ _ hr
    · simp at hs
  · exact step1_len hs

theorem caps_av {caps : List (Nat × Nat)} {vs : List Value} (h : F2 (CapR β) caps vs) : F2 (ARel β) (caps.map fun p => AV.sc (.ptr p.1 p.2)) vs := by
  induction h with
  | nil => exact .nil
  | cons a _ ih =>
    obtain ⟨L, h1, rfl⟩ := a
    exact .cons (.sc (.ptr h1)) ih

/-- One operation, whatever follows. -/
theorem op_sound {cf : CF} (CO : CallOK P cf) {k : AK} {o : Oper} {v : Option AV} {h' : Heap} (hok : okOp P k o.op = true) (hE : ERel β E a.tmps) (R : Rep β h w) (hf : fresh β h h')
    (hs : opRun cf E h k = some (v, h')) {K : Act → World → Prop} {Q : Exit → Act → World → Prop}
    (hK : ∀ β' w' c, Stp β h w β' h' w' → Rep β' h' w' → (∀ u, v = some u → ARel β' u c) → K (a.put o.dst c) w') : o.wp P a w K Q := by
  have call : ∀ (f : FuncId) (args : List AV) (vs : List Value), (execOp a.eval o).run P w = .ok (.enter f vs.toArray) w → F2 (ARel β) args vs →
      (∃ r, cf f args h = some (r, h') ∧ v = some r) → o.wp P a w K Q := by
    intro f args vs hrun hr ⟨r, hc, hv⟩
    unfold Oper.wp
    rw [hrun, Oper.upon_enter]
    refine (CO.run f args h r h' hc β w vs hr R hf).mono ?_
    rintro e w' ⟨β', c, rfl, h1, h2, h3⟩
    exact hK β' w' c h2 h3 (fun u hu => by rw [hv] at hu; simp at hu; subst hu; exact h1)
  cases hk : k
  case call f args =>
    subst hk
    simp only [opRun, Option.bind_eq_some_iff, Option.map_eq_some_iff, Prod.mk.injEq] at hs
    obtain ⟨vs, hvs, ⟨r, h1⟩, hr, rfl, rfl⟩ := hs
    cases hop : o.op <;> rw [hop] at hok <;> simp only [okOp, Bool.false_eq_true] at hok
    rename_i c
    obtain ⟨callee, args', argTypes⟩ := c
    split at hok
    · rename_i g hc
      simp only at hc
      subst hc
      simp at hok
      obtain ⟨⟨rfl, k2⟩, k3⟩ := hok
      have hr' := evs_rel hE k2 hvs
      refine call f vs _ ?_ hr' ⟨r, hr, rfl⟩
      simp [execOp, hop, resolve, Act.eval, Deferred.ofValue, invoke, callFunc_run k3]
      have : (args'.map a.eval) = (List.map a.eval args'.toList).toArray := by
        apply Array.ext'; simp
      exact this
    · simp at hok
  case callv x args =>
    subst hk
    simp only [opRun] at hs
    split at hs
    · rename_i f caps hx
      simp only [Option.bind_eq_some_iff, Option.map_eq_some_iff, Prod.mk.injEq] at hs
      obtain ⟨vs, hvs, ⟨r, h1⟩, hr, rfl, rfl⟩ := hs
      cases hop : o.op <;> rw [hop] at hok <;> simp only [okOp, Bool.false_eq_true] at hok
      rename_i c
      obtain ⟨callee, args', argTypes⟩ := c
      split at hok
      · rename_i x' hc
        simp only at hc
        subst hc
        simp at hok
        obtain ⟨k1, k2⟩ := hok
        have hr' := evs_rel hE k2 hvs
        have r1 := evS_rel k1 hE hx
        generalize hpv : a.eval x' = pv at r1
        cases r1 with
        | fn hcaps =>
          rename_i cvs
          have hfn := CO.fn _ _ _ _ hr
          refine call f _ (List.map a.eval args'.toList ++ cvs) ?_ (hr'.append (caps_av hcaps)) ⟨r, hr, rfl⟩
          simp [execOp, hop, resolve, hpv, Deferred.ofValue, invoke, callFunc_run hfn]
      · simp at hok
    · simp at hs
  all_goals
    have hs' : step1 E h k = some (v, h') := by rw [hk] at hs ⊢; exact hs
    obtain ⟨β', w', h1, h2, h3⟩ := step1_sound hok hE R hf hs'
    unfold Oper.wp
    cases v with
    | some u =>
      obtain ⟨c, h4, h5⟩ := h3
      rw [h4, Oper.upon_value]
      exact hK β' w' c h1 h2 (fun u' hu => by simp at hu; subst hu; exact h5)
    | none =>
      rw [h3, Oper.upon_skip]
      exact hK β' w' undef h1 h2 (fun u' hu => by simp at hu)

end Go.Ab

