import Derived.Laws.BytesString
import Derived.Test.YtleoalcbgpjieaaDoorAb8
import Derived.MapKept
import Derived.Lib.UnsafeStr
import Derived.Lib.ConvBytes
import Derived.Laws.AppendOwn
import Derived.Orders
/- append. -/
namespace Go.Ab
variable [Base]
set_option linter.unusedSectionVars false
set_option linter.unusedVariables false
variable {P : Program} {β : Bt} {E : Env} {h : Heap} {w : World} {a : Act}

/-- What is appended. -/
theorem src_run {esz m : Nat} {vs : List SV} {x : SV} {q : Value} (R : Rep β h w) (hx : SRel β x q) (hs : srcCells h esz x = some (m, vs)) :
    ∃ ws : List Value, F2 (SRel β) vs ws ∧ ws.length = m * esz ∧ ∀ w' : World, w'.heap = w.heap → (Builtin.lenOf q).run P w' = .ok m w' ∧ (Builtin.firstCells esz m q).run P w' = .ok ws.toArray w' := by
  unfold srcCells at hs
  split at hs
  · simp at hs
    obtain ⟨rfl, rfl⟩ := hs
    cases hx
    exact ⟨[], .nil, by simp, fun w' _ => ⟨by simp [Builtin.lenOf], by simp [Builtin.firstCells]⟩⟩
  · rename_i id off n cap
    split at hs
    · rename_i hn0
      subst hn0
      simp at hs
      obtain ⟨rfl, rfl⟩ := hs
      cases hx
      exact ⟨[], .nil, by simp, fun w' _ => ⟨by simp [Builtin.lenOf], by simp [Builtin.firstCells, loadCells, loadCellsFrom]⟩⟩
    simp only [Option.map_eq_some_iff, Prod.mk.injEq] at hs
    obtain ⟨us, hus, rfl, rfl⟩ := hs
    cases hx with
    | slc hL hc hl ho hb hn' =>
      rename_i L c ad
      obtain ⟨ws, e1, e2, e3⟩ := read_cells R hL hn' hus
      refine ⟨ws, e1, e2, fun w' hw' => ⟨by simp [Builtin.lenOf], ?_⟩⟩
      by_cases h0 : n = 0
      · subst h0
        have : ws = [] := by simpa using e2
        subst this
        simp [Builtin.firstCells, loadCells, loadCellsFrom]
      · have := ho (by omega)
        subst this
        simp only [Builtin.firstCells]
        have hrun := loadCells_run (P := P) (w := w') (b := L.b) (o := L.base + off) (ws := ws) fun j v hj => by
          have := e3 j v hj
          rw [← this]
          simp [World.cell?, hw']
        rw [e2] at hrun
        exact hrun
  · rename_i s
    split at hs
    · rename_i he
      subst he
      simp at hs
      obtain ⟨rfl, rfl⟩ := hs
      cases hx
      refine ⟨s.data.toList.map fun b => Value.int .u8 b.toNat, ?_, by simp, fun w' _ => ⟨by simp [Builtin.lenOf], ?_⟩⟩
      · refine F2.of_get (by simp) fun i x y hx hy => ?_
        simp at hx hy
        obtain ⟨b, hb, rfl⟩ := hx
        rw [hb] at hy
        simp at hy
        subst hy
        exact .int _ _
      · simp only [Builtin.firstCells, Sem.run_pure]
        congr 1
        apply Array.ext'
        have : (s.extract 0 s.size).data = s.data := by simp [ByteArray.extract_zero_size]
        simp
    · simp at hs
  · simp at hs

section
variable {t u ty e : TypeId} {bytes : Nat} {ti : TypeInfo} {z : Value} {q : Value} {m : Nat} {ws : List Value} {d : TypeDesc}

theorem app_fit (hu : P.underlying t = some (.slice e)) (hd : P.underlying u = some d) (hnz : ∀ k, d ≠ .int k) (hi : P.info? e = some ti)
    (hq1 : (Builtin.lenOf q).run P w = .ok m w) (hq2 : (Builtin.firstCells ti.size m q).run P w = .ok ws.toArray w) {base : Option Addr} {n c : Nat} (hfit : n + m ≤ c)
    {w' : World} (hst : ∀ b, base = some b → (storeCells (b.add (n * ti.size)) ws).run P w = .ok () w') (hno : base = none → w' = w) :
    (Builtin.append_ #[t, u] ty #[.slice base n c, q]).run P w = .ok (.slice base (n + m) c) w' := by
  have hz : (match d with | .int _ => true | _ => false) = false := by
    cases d <;> first | rfl | exact absurd rfl (hnz _)
  cases base with
  | none =>
    have := hno rfl
    subst this
    simp [Builtin.append_, run_und hu, run_und hd, sizeOf, typeInfo, hi, hq1, hq2, hfit]
  | some b =>
    have := hst b rfl
    simp [Builtin.append_, run_und hu, run_und hd, sizeOf, typeInfo, hi, hq1, hq2, hfit, this]

theorem app_grow (hu : P.underlying t = some (.slice e)) (hd : P.underlying u = some d) (hnz : ∀ k, d ≠ .int k) (hi : P.info? e = some ti) (hz : ti.zero = some z)
    (hq : ∀ w' : World, w'.heap = w.heap → (Builtin.lenOf q).run P w' = .ok m w' ∧ (Builtin.firstCells ti.size m q).run P w' = .ok ws.toArray w') {base : Option Addr} {n c : Nat} (hg : c < n + m)
    {os : List Value} (ho : ∀ w' : World, w'.heap = w.heap → (Builtin.firstCells ti.size n (.slice base n c)).run P w' = .ok os.toArray w')
    (hb : (n + m) * (ti.bytes + 1) ≤ bigN) :
    (Builtin.append_ #[t, u] ty #[.slice base n c, q]).run P w =
      .ok (.slice (some ⟨w.heap.size, 0, none⟩) (n + m) (grownCap w (n + m) c e)) (w.drew.alloc (.cells (os.toArray ++ ws.toArray ++ Builtin.zeroCells z.cells (grownCap w (n + m) c e - (n + m))) e)) := by
  have hz' : (match d with | .int _ => true | _ => false) = false := by
    cases d <;> first | rfl | exact absurd rfl (hnz _)
  have hbig : bigN = 1099511627776 := rfl
  rw [Nat.mul_add, Nat.mul_one, hbig] at hb
  have hn : ¬ (n + m ≤ c) := by omega
  have h63 : ¬ (9223372036854775807 < ((n : Int) + (m : Int))) := by omega
  have h48 : ¬ (281474976710656 < Builtin.nextslicecap (n + m) c * ti.bytes) := by
    have := growslice_fits (need := n + m) (old := c) (bytes := ti.bytes) hg (by omega)
    omega
  have q1 := (hq w rfl).1
  have q2 := (hq w.drew rfl).2
  have q3 := ho w.drew rfl
  simp [Builtin.append_, run_und hu, run_und hd, sizeOf, typeInfo, zeroValue, hi, hz, hn, h63, h48, Question.forced, q1, q2, q3, newRow, grownCap]
  congr 2
  apply Array.ext'
  simp
end

theorem alloc_drew (w : World) (o : Obj) : w.drew.alloc o = { w.alloc o with drawn := w.drawn + 1 } := rfl

/-- A grown row. -/
theorem grow_out {cs vs : List SV} {os ws : List Value} {esz : ESz} {n m : Nat} {zero : List SV} {z : Value} (R : Rep β h w) (hf : β h.length = none) (e : TypeId) (hty : TyOk esz e) (hlow : esz.n < 1000000) (hnt : esz.n ≠ 0) (cap : Nat)
    (ho : F2 (SRel β) cs os) (hv : F2 (SRel β) vs ws) (hol : os.length = n * esz.n) (hwl : ws.length = m * esz.n) (hz : F2 (SRel β) zero z.cells.toList) (hzl : zero.length = esz.n) (hcap : n + m ≤ cap) :
    ∃ L : Loc, L.b = w.heap.size ∧ L.base = 0 ∧ L.esz = esz ∧ cap * L.esz.n ≤ L.sz ∧
      Stp β h w (upd β h.length L) (h ++ [.cells (cs ++ vs) true esz]) (w.drew.alloc (.cells (os.toArray ++ ws.toArray ++ Builtin.zeroCells z.cells (cap - (n + m))) e)) ∧
      Rep (upd β h.length L) (h ++ [.cells (cs ++ vs) true esz]) (w.drew.alloc (.cells (os.toArray ++ ws.toArray ++ Builtin.zeroCells z.cells (cap - (n + m))) e)) := by
  have hzs : z.cells.size = esz.n := by have := hz.length; simp at this; omega
  have hsz : (os.toArray ++ ws.toArray ++ Builtin.zeroCells z.cells (cap - (n + m))).size = cap * esz.n := by
    simp [size_zeroCells, hol, hwl, hzs, ← Nat.add_mul]
    congr 1
    omega
  have hl := ho.length
  have hl2 := hv.length
  have hfit : (n + m) * esz.n ≤ cap * esz.n := Nat.mul_le_mul_right _ hcap
  obtain ⟨q1, q2⟩ := alloc_done R hf (os.toArray ++ ws.toArray ++ Builtin.zeroCells z.cells (cap - (n + m))) e (cs ++ vs) esz hty hlow (fun h0 => absurd h0 hnt)
    (by rw [hsz]; simp; rw [Nat.add_mul] at hfit; omega) (fun i v hi => by
      obtain ⟨c, k1, k2⟩ := (ho.append hv).get hi
      refine ⟨c, ?_, k2⟩
      have hlt : i < (os ++ ws).length := (List.getElem?_eq_some_iff.1 k1).1
      rw [Array.getElem?_append_left (by simpa using hlt)]
      rw [← k1]
      simp)
  refine ⟨⟨w.heap.size, 0, (os.toArray ++ ws.toArray ++ Builtin.zeroCells z.cells (cap - (n + m))).size, esz⟩, rfl, rfl, rfl, Nat.le_of_eq hsz.symm, ?_, ?_⟩
  · rw [alloc_drew]
    exact ⟨q1.ext, q1.dom, q1.full, q1.len, q1.own, q1.new, q1.frame, q1.size, q1.os, q1.tape, q1.output⟩
  · rw [alloc_drew]; exact q2.drawn _

theorem Stp.len_eq {β h w β' h' w'} (q : Stp β h w β' h' w') : h.length ≤ h'.length := q.len

theorem s_app {esz : ESz} {bytes : Nat} {zero : List SV} {x y : AO} {o : Oper} {v : Option AV} {h' : Heap} (hok : okOp P (.app esz bytes zero x y) o.op = true) (hE : ERel β E a.tmps) (R : Rep β h w) (hf : fresh β h h')
    (hs : step1 E h (.app esz bytes zero x y) = some (v, h')) : Out1 β h w ((execOp a.eval o).run P w) v h' := by
  cases hop : o.op <;> rw [hop] at hok <;> simp only [okOp, Bool.false_eq_true] at hok
  rename_i c
  obtain ⟨callee, args, argTypes⟩ := c
  split at hok
  case h_2 => simp at hok
  rename_i x' y' t u hc ha ht
  simp only at hc ha ht
  have ha' : args = #[x', y'] := by rw [← Array.toArray_toList (xs := args), ha]
  have ht' : argTypes = #[t, u] := by rw [← Array.toArray_toList (xs := argTypes), ht]
  subst hc ha' ht'
  simp only [Bool.and_eq_true, Bool.not_eq_true'] at hok
  obtain ⟨⟨⟨⟨⟨k1, k2⟩, k3⟩, k4⟩, k0⟩, k5⟩ := hok
  obtain ⟨e, hu, hg⟩ := elIs_some k5
  simp at hg
  obtain ⟨⟨⟨⟨hsz, hby⟩, hzero⟩, hze⟩, hty⟩ := hg
  have hty' := tyIs_ok hty
  have hnt := eszOk_ne k0
  have hpos := eszOk_pos k0
  have hlow := eszOk_low k0
  obtain ⟨en, ety⟩ := esz
  simp only at hsz hze hs hty' hnt hpos hlow
  subst hze
  obtain ⟨ti, z, hi, hz, hcz⟩ := zeroIs_some hzero
  have hzr := okCells_rel (β := β) hcz
  have hs1 : ti.size = zero.length := by simpa [szIs, hi] using hsz
  have hs2 : ti.bytes = bytes := by simpa [byIs, hi] using hby
  subst hs2
  obtain ⟨d, hd⟩ := Option.isSome_iff_exists.1 k3
  have hnz : ∀ k, d ≠ .int k := fun k hk => by subst hk; simp [intIs, hd] at k4
  simp only [step1, Option.bind_eq_some_iff, Option.map_eq_some_iff, Prod.mk.injEq] at hs
  obtain ⟨s, hps, t', hpt, ⟨m, vs⟩, hsrc, ⟨s', h1⟩, happ, rfl, rfl⟩ := hs
  have r1 := evS_rel k1 hE hps
  have r2 := evS_rel k2 hE hpt
  obtain ⟨ws, w1, w2, w3⟩ := src_run (P := P) R r2 hsrc
  have hvl := w1.length
  -- the run of the operation is that of append
  have key : ∀ {c w'}, (Builtin.append_ #[t, u] o.type #[a.eval x', a.eval y']).run P w = .ok c w' → (execOp a.eval o).run P w = .ok (.value c) w' := by
    intro c w' hr
    simp [execOp, hop, resolve, invoke, builtin, hr]
  generalize hpv : a.eval x' = pv at r1 key
  rw [← hs1] at w2 w3
  have hF0 : ∀ w' : World, w'.heap = w.heap → (Builtin.firstCells ti.size 0 (.slice none 0 0)).run P w' = .ok ([] : List Value).toArray w' := fun w' _ => by simp [Builtin.firstCells]
  unfold appS at happ
  split at happ
  · split at happ
    · rename_i hm0
      subst hm0
      simp at happ
      obtain ⟨rfl, rfl⟩ := happ
      cases r1
      exact out_pure R (key (app_fit hu hd hnz hi (w3 w rfl).1 (w3 w rfl).2 (base := none) (n := 0) (c := 0) (by simp) (w' := w) (by simp) (fun _ => rfl))) (.sc .nilS)
    · rename_i hm0
      split at happ
      · rename_i hb
        simp at happ
        obtain ⟨rfl, rfl⟩ := happ
        cases r1
        have hg := app_grow (ty := o.type) hu hd hnz hi hz w3 (base := none) (n := 0) (c := 0) (by omega) hF0 (by simpa using hb)
        obtain ⟨L, l1, l2, l3, l4, q1, q2⟩ := grow_out (n := 0) (m := m) R hf.one e hty' hlow hnt (grownCap w (0 + m) 0 e) .nil w1 (by simp) (by rw [w2, hs1]) hzr rfl (grownCap_ge w (0 + m) 0 e)
        simp only [List.nil_append, Nat.zero_add] at q1 q2 l4 hg
        have hge := grownCap_ge w m 0 e
        refine ⟨_, _, q1, q2, _, key hg, .sc ?_⟩
        exact slc_new l1 l2 hge (fun k hk => by simp at hk) (by rw [l3]; exact ⟨hpos, hlow⟩) l4
      · simp at happ
  · rename_i id off n cap
    split at happ
    · rename_i hm0
      subst hm0
      simp at happ
      obtain ⟨rfl, rfl⟩ := happ
      have hws : ws = [] := by simpa using w2
      subst hws
      cases r1 with
      | slc hL hc hl ho hb hn' =>
        exact out_pure R (key (app_fit hu hd hnz hi (w3 w rfl).1 (w3 w rfl).2 (by omega) (w' := w) (fun b _ => by simp [storeCells]) (fun _ => rfl))) (.sc (.slc hL hc hl ho hb hn'))
    · rename_i hm0
      split at happ
      case isFalse => simp at happ
      rename_i hbig
      split at happ
      case h_2 => simp at happ
      rename_i cs rw esz hg
      split at happ
      case isFalse => simp at happ
      rename_i he
      subst he
      split at happ
      case h_2 => simp at happ
      rename_i old hcut
      cases r1 with
      | slc hL hc hl ho hb hn' =>
        rename_i L c ad
        have hB := (R.blk id L cs rw ⟨zero.length, ety⟩ hg hL).cell hn'
        obtain ⟨ws0, o1, o2, o3⟩ := read_cells R hL hn' (show readN h id off (n * zero.length) = some old by simp [readN, hg, hcut])
        obtain ⟨cu1, cu2, cu3⟩ := cut_some hcut
        -- the cells that are there already
        have hold : ∀ w' : World, w'.heap = w.heap → (Builtin.firstCells ti.size n (.slice (some ad) n c)).run P w' = .ok ws0.toArray w' := by
          intro w' hw'
          by_cases h0 : n = 0
          · subst h0
            have : ws0 = [] := by simpa using o2
            subst this
            simp [Builtin.firstCells, loadCells, loadCellsFrom]
          · have := ho (by omega)
            subst this
            simp only [Builtin.firstCells]
            have hrun := loadCells_run (P := P) (w := w') (b := L.b) (o := L.base + off) (ws := ws0) fun j v hj => by
              have := o3 j v hj
              rw [← this]
              simp [World.cell?, hw']
            rw [o2] at hrun
            rw [hs1]
            exact hrun
        -- it grows
        have grows : c < n + m → β h.length = none → ∀ {h1 : Heap}, Rep β h1 w → Stp β h w β h1 w → h1.length = h.length →
            Out1 β h w ((execOp a.eval o).run P w) (some (.sc (.slc h.length 0 (n + m) none))) (h1 ++ [.cells (old ++ vs) true ⟨zero.length, ety⟩]) := by
          intro hlt hfr0 h1 R1 S1 hlen
          have hgr := app_grow (ty := o.type) hu hd hnz hi hz w3 hlt hold hbig
          have hfr : β h1.length = none := by rw [hlen]; exact hfr0
          obtain ⟨M, l1, l2, l3, l4, q1, q2⟩ := grow_out (n := n) (m := m) R1 hfr e hty' hlow hnt (grownCap w (n + m) c e) o1 w1 o2 (by rw [w2, hs1]) hzr rfl (grownCap_ge w (n + m) c e)
          refine ⟨_, _, S1.trans q1, q2, _, key hgr, .sc ?_⟩
          rw [← hlen]
          exact slc_new l1 l2 (grownCap_ge w (n + m) c e) (fun k hk => by simp at hk) (by rw [l3]; exact ⟨hpos, hlow⟩) l4
        split at happ
        · rename_i k
          have hck := hc k rfl
          subst hck
          split at happ
          · rename_i hlt
            simp at happ
            obtain ⟨rfl, rfl⟩ := happ
            exact grows hlt hf.one R (Stp.refl _ _ _) rfl
          · rename_i hlt
            simp only [Option.map_eq_some_iff, Prod.mk.injEq] at happ
            obtain ⟨h1, hw, rfl, rfl⟩ := happ
            have ho' := ho (by omega)
            subst ho'
            obtain ⟨w', q1, q2, q3⟩ := store_done (P := P) R hL hn' w1 hw
            have hrun := app_fit (ty := o.type) hu hd hnz hi (w3 w rfl).1 (w3 w rfl).2 (base := some ⟨L.b, L.base + off, none⟩) (n := n) (c := c) (by omega) (w' := w') (fun b hb => by
              simp at hb; subst hb
              rw [Addr.add_off, hs1, Nat.add_assoc]
              exact q1) (fun hb => by simp at hb)
            exact ⟨β, w', q2, q3, _, key hrun, .sc (.slc hL hc (by omega) ho hb hn')⟩
        · split at happ
          case isFalse => simp at happ
          rename_i hrw
          simp at happ
          obtain ⟨rfl, rfl⟩ := happ
          have hid : id < h.length := (List.getElem?_eq_some_iff.1 hg).1
          have hfr0 : β h.length = none := hf h.length (Nat.le_refl _) (by simp)
          obtain rfl := hrw.1
          by_cases hlt : c < n + m
          · obtain ⟨q1, q2⟩ := kill_done R hg
            exact grows hlt hfr0 q2 q1 (by simp)
          · have ho' := ho (by omega)
            obtain ⟨hbp, hb⟩ := hb (by omega)
            subst ho'
            obtain ⟨b1, ccs, be, fz, b2, b3, b4, b5, b6, -, b8⟩ := hB
            have := b6 rfl
            subst this
            have hnb : ety = none ∨ L.base + off = 0 := by
              cases hety : ety with
              | none => exact .inl rfl
              | some t0 =>
                have h1 := (b8.1 t0 hety).1
                rcases hrw.2 with h2 | h2
                · simp [hety] at h2
                · exact .inr (by omega)
            have hl1 := o1.length
            have hl2 := w1.length
            have hmul : n * L.esz.n + m * L.esz.n ≤ c * L.esz.n := by rw [← Nat.add_mul]; exact Nat.mul_le_mul_right _ (by omega)
            have hwl : ws.length = m * zero.length := by rw [w2, hs1]
            rw [b1] at hmul hb
            simp only at hmul hb
            have hst := run_storeCells_at P L.b (L.base + off + n * zero.length) be ws 0 ccs w b2 (by omega) w1.oneCell
            have hfit : L.base + off + n * zero.length + ws.length ≤ ccs.toList.length := by have hcl : ccs.toList.length = ccs.size := Array.length_toList; omega
            obtain ⟨q1, q2⟩ := adopt_done R hfr0 hg hL (ccs.toList.take (L.base + off + n * zero.length + 0) ++ ws ++ ccs.toList.drop (L.base + off + n * zero.length + 0 + ws.length)).toArray (L.base + off) hlow hnt hnb (old ++ vs)
              (by simp; omega) (by simp; omega) (fun i v hi => by
                simp only [List.getElem?_toArray, Nat.add_zero]
                rw [spliceV_get _ _ _ hfit]
                by_cases c1 : i < n * zero.length
                · rw [List.getElem?_append_left (by omega)] at hi
                  obtain ⟨ci, k1, k2⟩ := o1.get hi
                  rw [if_pos (by omega)]
                  refine ⟨ci, ?_, k2⟩
                  have := o3 i ci k1
                  rw [cell_of_row w L.b _ ccs be _ b2] at this
                  rw [Array.getElem?_toList]
                  exact this
                · rw [List.getElem?_append_right (by omega)] at hi
                  obtain ⟨ci, k1, k2⟩ := w1.get hi
                  have hlt2 : i - old.length < ws.length := (List.getElem?_eq_some_iff.1 k1).1
                  rw [if_neg (by omega), if_pos (by omega)]
                  refine ⟨ci, ?_, k2⟩
                  rw [← k1]; congr 1; omega)
            have hrun := app_fit (ty := o.type) hu hd hnz hi (w3 w rfl).1 (w3 w rfl).2 (base := some ⟨L.b, L.base + off, none⟩) (n := n) (c := c) (by omega) (fun b hb => by
              simp at hb; subst hb
              rw [Addr.add_off, hs1]
              exact hst) (fun hb => by simp at hb)
            refine ⟨_, _, q1, q2, _, key hrun, .sc ?_⟩
            exact SRel.slc (L := ⟨L.b, L.base + off, L.sz, ⟨zero.length, ety⟩⟩) (off := 0) (upd_same _ _ _) (fun k hk => by simp at hk) (by omega) (fun _ => rfl) (fun _ => ⟨hpos, hb⟩) hlow
  · simp at happ

/-! ### A string out of the bytes of a block -/
/-- copy. -/
theorem s_cpy {esz : Nat} {x y : AO} {o : Oper} {v : Option AV} {h' : Heap} (hok : okOp P (.cpy esz x y) o.op = true) (hE : ERel β E a.tmps) (R : Rep β h w)
    (hs : step1 E h (.cpy esz x y) = some (v, h')) : Out1 β h w ((execOp a.eval o).run P w) v h' := by
  cases hop : o.op <;> rw [hop] at hok <;> simp only [okOp, Bool.false_eq_true] at hok
  rename_i c
  obtain ⟨callee, args, argTypes⟩ := c
  split at hok
  case h_2 => simp at hok
  rename_i x' y' t u hc ha ht
  simp only at hc ha ht
  have ha' : args = #[x', y'] := by rw [← Array.toArray_toList (xs := args), ha]
  have ht' : argTypes = #[t, u] := by rw [← Array.toArray_toList (xs := argTypes), ht]
  subst hc ha' ht'
  simp only [Bool.and_eq_true] at hok
  obtain ⟨⟨k1, k2⟩, k5⟩ := hok
  obtain ⟨e, hu, hg⟩ := elIs_some k5
  obtain ⟨ti, hi, hs1⟩ : ∃ ti, P.info? e = some ti ∧ ti.size = esz := by
    unfold szIs at hg
    split at hg
    · exact ⟨_, by assumption, by simpa using hg⟩
    · cases hg
  simp only [step1] at hs
  split at hs
  case h_2 => simp at hs
  rename_i id off dl cp id2 off2 m cp2 hpx hpy
  split at hs
  case isFalse => simp at hs
  rename_i hpos
  simp only [Option.bind_eq_some_iff, Option.map_eq_some_iff, Prod.mk.injEq] at hs
  obtain ⟨vs, hrd, h1, hw, rfl, rfl⟩ := hs
  have r1 := evS_rel k1 hE hpx
  have r2 := evS_rel k2 hE hpy
  have key : ∀ {c w'}, (Builtin.copy_ #[t, u] o.type #[a.eval x', a.eval y']).run P w = .ok c w' → (execOp a.eval o).run P w = .ok (.value c) w' := by
    intro c w' hr
    simp [execOp, hop, resolve, invoke, builtin, hr]
  generalize hpv : a.eval x' = pv at r1 key
  generalize hqv : a.eval y' = qv at r2 key
  cases r1 with
  | slc hL hc hl ho hb hn' =>
    rename_i L c ad
    cases r2 with
    | slc hL2 hc2 hl2 ho2 hb2 hn2 =>
      rename_i L2 c2 ad2
      have hm : 0 < m := by omega
      have hd : 0 < dl := by omega
      have o1 := ho (by omega)
      have o2 := ho2 (by omega)
      subst o1 o2
      obtain ⟨ws, e1, e2, e3⟩ := read_cells R hL2 hn2 hrd
      have hrun := loadCells_run (P := P) (w := w) (b := L2.b) (o := L2.base + off2) (ws := ws) fun j v hj => e3 j v hj
      rw [e2] at hrun
      obtain ⟨w', q1, q2, q3⟩ := store_done (P := P) R hL hn' e1 hw
      have hcp : (Builtin.copy_ #[t, u] o.type #[.slice (some ⟨L.b, L.base + off, none⟩) dl c, .slice (some ⟨L2.b, L2.base + off2, none⟩) m c2]).run P w = .ok (goInt ((min m dl : Nat) : Int)) w' := by
        have hmin : Nat.min m dl = min m dl := rfl
        simp [Builtin.copy_, run_und hu, sizeOf, typeInfo, hi, hs1, Builtin.lenOf, Builtin.firstCells, hmin, hrun, q1]
      exact ⟨β, w', q2, q3, _, key hcp, .sc (.int _ _)⟩

theorem ByteArray.ofList (l : List UInt8) : (⟨l.toArray⟩ : ByteArray).data = l.toArray := rfl

theorem freeze_heap (w : World) {b o n : Nat} {cs : Array Value} {e : TypeId} {fz : Nat × Nat} (hb : w.heap[b]? = some (.cells cs e fz)) : ∃ fz', (w.freeze ⟨b, o, none⟩ n).heap[b]? = some (.cells cs e fz') := by
  unfold World.freeze
  split
  · exact ⟨fz, hb⟩
  · obtain ⟨lo, hi⟩ := fz
    simp only [Array.getElem?_modify, if_true, hb, Option.map_some]
    exact ⟨_, rfl⟩
theorem freeze_other (w : World) {b o n k : Nat} (h : k ≠ b) : (w.freeze ⟨b, o, none⟩ n).heap[k]? = w.heap[k]? := by
  unfold World.freeze
  split
  · rfl
  · simp only [Array.getElem?_modify]
    rw [if_neg (by simpa using Ne.symm h)]
theorem freeze_same (w : World) (a : Addr) (n : Nat) : (w.freeze a n).heap.size = w.heap.size ∧ (w.freeze a n).os = w.os ∧ (w.freeze a n).tape = w.tape ∧ (w.freeze a n).output = w.output := by
  unfold World.freeze
  split
  · exact ⟨rfl, rfl, rfl, rfl⟩
  · exact ⟨by simp, rfl, rfl, rfl⟩

/-- A block is frozen: it is read from now on, and no longer written. -/
theorem freeze_done (R : Rep β h w) {id : Nat} {L : Loc} {cs : List SV} {esz : ESz} (hg : h[id]? = some (.cells cs true esz)) (hL : β id = some L) (hn : L.esz.n < 1000000) (o n : Nat) :
    Stp β h w β (h.set id (.cells cs false esz)) (w.freeze ⟨L.b, o, none⟩ n) ∧ Rep β (h.set id (.cells cs false esz)) (w.freeze ⟨L.b, o, none⟩ n) := by
  have hid : id < h.length := (List.getElem?_eq_some_iff.1 hg).1
  have hB := R.blk id L cs true esz hg hL
  obtain ⟨z1, z2, z3, z4⟩ := freeze_same w ⟨L.b, o, none⟩ n
  refine ⟨⟨fun _ _ h => h, fun _ _ h => .inl h, fun i h1 h2 => by simp at h2; omega, by simp, ?_, fun id L h1 h2 => by rw [h1] at h2; simp at h2, ?_, by rw [z1]; exact Nat.le_refl _, z2, z3, z4⟩, ⟨fun i b M hi hM => ?_, ?_, ?_, ⟨by rw [z1]; exact R.keep.1, fun b hb => (freeze_other _ (Nat.ne_of_lt (Nat.lt_of_lt_of_le hb (hB.low rfl)))).trans (R.keep.2 b hb)⟩⟩⟩
  · rintro b ⟨i, M, cs1, e1, hi, hM, rfl⟩
    rw [get_set _ _ _ _ hid] at hi
    split at hi
    · simp at hi
    · exact .inr ⟨i, M, cs1, e1, hi, hM, rfl⟩
  · intro b hb hn
    exact freeze_other w fun e => hn ⟨id, L, cs, esz, hg, hL, e.symm⟩
  · rw [get_set _ _ _ _ hid] at hi
    split at hi
    · rename_i e; subst e; simp at hi; subst hi
      exact (R.sz i _ M hg hM : M.esz = esz)
    · exact R.sz i b M hi hM
  · intro i M cs1 rw1 e1 hi hM
    rw [get_set _ _ _ _ hid] at hi
    split at hi
    · rename_i e; subst e; simp at hi; obtain ⟨rfl, rfl, rfl⟩ := hi
      rw [hL] at hM; simp at hM; subst hM
      obtain ⟨h1, ccs, e, fz, h2, h3, h4, h5, h6, h7⟩ := hB.cell hn
      obtain ⟨fz', h8⟩ := freeze_heap w (o := o) (n := n) h2
      exact .inl ⟨by rw [← h1]; exact hn, h1, ccs, e, fz', h8, h3, h4, h5, fun hc => by simp at hc, h7.1, h7.2.1, fun hc => by simp at hc⟩
    · rename_i e
      have hB' := R.blk i M cs1 rw1 e1 hi hM
      have hne : L.b ≠ M.b := R.exc id i L M cs esz cs1 rw1 e1 hg hi (Ne.symm e) hL hM
      exact hB'.mono (fun _ _ h => h) (freeze_other w (Ne.symm hne))
  · intro i j M N cs1 e1 cs2 rw2 e2 hi hj hne hM hN
    rw [get_set _ _ _ _ hid] at hi hj
    split at hi
    · simp at hi
    · split at hj
      · rename_i e; subst e
        exact R.exc i j M N cs1 e1 cs true esz hi hg hne hM hN
      · exact R.exc i j M N cs1 e1 cs2 rw2 e2 hi hj hne hM hN

theorem bytesOf_get : ∀ {vs : List SV} {l : List UInt8}, bytesOf vs = some l → l.length = vs.length ∧ ∀ (j : Nat) (x : UInt8), l[j]? = some x → vs[j]? = some (.int .u8 x.toNat)
  | [], l, h => by simp [bytesOf] at h; subst h; simp
  | .int .u8 v :: r, l, h => by
    simp only [bytesOf] at h
    split at h
    · rename_i hv
      simp only [Option.map_eq_some_iff] at h
      obtain ⟨l', hl', rfl⟩ := h
      obtain ⟨h1, h2⟩ := bytesOf_get hl'
      refine ⟨by simp [h1], fun j x hj => ?_⟩
      cases j with
      | zero => simp at hj; subst hj; simp only [List.getElem?_cons_zero]; rw [← hv]
      | succ j => simpa using h2 j x (by simpa using hj)
    · simp at h
  | v :: r, l, h => by
    unfold bytesOf at h
    split at h
    · rename_i h1; cases h1
    · rename_i v' r' h1
      cases h1
      split at h
      · rename_i hv
        simp only [Option.map_eq_some_iff] at h
        obtain ⟨l', hl', rfl⟩ := h
        obtain ⟨h1, h2⟩ := bytesOf_get hl'
        refine ⟨by simp [h1], fun j x hj => ?_⟩
        cases j with
        | zero => simp at hj; subst hj; simp only [List.getElem?_cons_zero]; rw [← hv]
        | succ j => simpa using h2 j x (by simpa using hj)
      · simp at h
    · simp at h

theorem s_usd {x : AO} {o : Oper} {v : Option AV} {h' : Heap} (hok : okOp P (.usd x) o.op = true) (hE : ERel β E a.tmps) (R : Rep β h w)
    (hs : step1 E h (.usd x) = some (v, h')) : Out1 β h w ((execOp a.eval o).run P w) v h' := by
  cases hop : o.op <;> rw [hop] at hok <;> simp only [okOp, Bool.false_eq_true] at hok
  rename_i c
  obtain ⟨callee, args, argTypes⟩ := c
  split at hok
  case h_2 => simp at hok
  rename_i x' hc ha
  simp only at hc ha
  have ha' : args = #[x'] := by rw [← Array.toArray_toList (xs := args), ha]
  subst hc ha'
  have key : ∀ {c w'}, (Builtin.unsafeSliceData_ argTypes o.type #[a.eval x']).run P w = .ok c w' → (execOp a.eval o).run P w = .ok (.value c) w' := by
    intro c w' hr
    simp [execOp, hop, resolve, invoke, builtin, hr]
  simp only [step1] at hs
  split at hs
  · rename_i id off n cap hp
    split at hs
    · rename_i hn
      simp at hs
      obtain ⟨rfl, rfl⟩ := hs
      have r := evS_rel hok hE hp
      generalize hpv : a.eval x' = pv at r key
      cases r with
      | slc hL hc hl ho hb hn' =>
        rename_i L c ad
        have had := ho (by omega)
        subst had
        exact out_pure R (key (Lib.run_unsafeSliceData_row _ _ _ _ _ _ (by omega))) (.sc (.ptr hL hn'))
    · simp at hs
  · rename_i hp
    simp at hs
    obtain ⟨rfl, rfl⟩ := hs
    have r := evS_rel hok hE hp
    generalize hpv : a.eval x' = pv at r key
    cases r
    exact out_pure R (key (Lib.run_unsafeSliceData_nil _ _ _ _ _)) (.sc .nilP)
  · simp at hs

theorem s_ustr {t : Nat} {x n : AO} {o : Oper} {v : Option AV} {h' : Heap} (hok : okOp P (.ustr t x n) o.op = true) (hE : ERel β E a.tmps) (R : Rep β h w)
    (hs : step1 E h (.ustr t x n) = some (v, h')) : Out1 β h w ((execOp a.eval o).run P w) v h' := by
  cases hop : o.op <;> rw [hop] at hok <;> simp only [okOp, Bool.false_eq_true] at hok
  rename_i c
  obtain ⟨callee, args, argTypes⟩ := c
  split at hok
  case h_2 => simp at hok
  rename_i x' n' u tl hc ha ht
  simp only at hc ha ht
  have ha' : args = #[x', n'] := by rw [← Array.toArray_toList (xs := args), ha]
  have ht' : argTypes = #[u, tl] := by rw [← Array.toArray_toList (xs := argTypes), ht]
  subst hc ha' ht'
  simp only [Bool.and_eq_true] at hok
  obtain ⟨⟨⟨k1, k2⟩, k3⟩, k4⟩ := hok
  have hu : P.underlying u = some (.pointer t) := by
    unfold ptrTo at k3
    split at k3
    · rename_i e he; simp at k3; subst k3; exact he
    · simp at k3
  have hcells : P.cellsOf t = 1 := by
    unfold szIs at k4
    split at k4
    · rename_i i hi; simp at k4; simp [Program.cellsOf, hi, k4]
    · simp at k4
  have key : ∀ {c w'}, (Builtin.unsafeString_ #[u, tl] o.type #[a.eval x', a.eval n']).run P w = .ok c w' → (execOp a.eval o).run P w = .ok (.value c) w' := by
    intro c w' hr
    simp [execOp, hop, resolve, invoke, builtin, hr]
  simp only [step1] at hs
  split at hs
  · rename_i id m hp hn
    split at hs
    · rename_i cs z hg
      split at hs
      · rename_i hcond
        obtain ⟨hm0, hm1, rfl⟩ := hcond
        simp only [Option.bind_eq_some_iff, Option.map_eq_some_iff, Prod.mk.injEq] at hs
        obtain ⟨vs, hcut, l, hl, rfl, rfl⟩ := hs
        have r1 := evS_rel k1 hE hp
        have r2 := evS_rel k2 hE hn
        generalize hpv : a.eval x' = pv at r1 key
        generalize hnv : a.eval n' = nv at r2 key
        cases r2
        cases r1 with
        | ptr hL hn' =>
          rename_i L
          obtain ⟨b1, b2⟩ := bytesOf_get hl
          obtain ⟨c1, c2, c3⟩ := cut_some hcut
          have hlen : l.length = m.toNat := by rw [b1, c2]
          have hm : m = (l.length : Int) := by omega
          obtain ⟨q1, q2⟩ := freeze_done R hg hL hn' (L.base + 0) m.toNat
          obtain ⟨-, ccs, e, fz, h2, h3, h4, h5, -, h7, h8⟩ := (R.blk id L cs true _ hg hL).cell hn'
          have he : e = t := h7 t rfl
          subst he
          obtain ⟨hb0, -⟩ := h8.1 e rfl
          rw [hb0] at key q1 q2
          refine ⟨β, _, q1, q2, _, key ?_, .sc (.str _)⟩
          have hcell : ∀ (j : Nat) (x : UInt8), l[j]? = some x → w.cell? ((⟨L.b, 0, none⟩ : Addr).add j) = some (.int .u8 x.toNat) := by
            intro j x hj
            have h8 := b2 j x hj
            obtain ⟨-, h9⟩ := c3 _ _ h8
            obtain ⟨c, h10, h11⟩ := h5 _ _ h9
            cases h11
            rw [Addr.add_off, cell_of_row w L.b _ ccs e fz h2]
            rw [hb0] at h10
            simpa using h10
          have hsh : w.shape? L.b = some (e, ccs.size) := by simp [World.shape?, h2]
          have hrun := Lib.run_unsafeString_row (P := P) w u tl o.type e hu hcells L.b ccs.size hsh l (by intro hnil; subst hnil; simp at hlen; omega) (by omega) (by omega) hcell
          rw [← hm] at hrun
          rw [hlen] at hrun
          exact hrun
      · simp at hs
    · simp at hs
  · rename_i m hp hn
    split at hs
    · rename_i hm
      subst hm
      simp at hs
      obtain ⟨rfl, rfl⟩ := hs
      have r1 := evS_rel k1 hE hp
      have r2 := evS_rel k2 hE hn
      generalize hpv : a.eval x' = pv at r1 key
      generalize hnv : a.eval n' = nv at r2 key
      cases r2
      cases r1
      exact out_pure R (key (Lib.run_unsafeString_none w u tl o.type none)) (.sc (.str _))
    · simp at hs
  · simp at hs

/-! ### The bytes of a string, in a new block that is only read -/
theorem s_cvb {x : AO} {o : Oper} {v : Option AV} {h' : Heap} (hok : okOp P (.cvb x) o.op = true) (hE : ERel β E a.tmps) (R : Rep β h w) (hf : fresh β h h')
    (hs : step1 E h (.cvb x) = some (v, h')) : Out1 β h w ((execOp a.eval o).run P w) v h' := by
  cases hop : o.op <;> rw [hop] at hok <;> simp only [okOp, Bool.false_eq_true] at hok
  rename_i s t x'
  simp only [Bool.and_eq_true] at hok
  obtain ⟨⟨k1, k2⟩, k3⟩ := hok
  have hus := strIs_some k2
  obtain ⟨e, hut, hue⟩ := elIs_some k3
  have hu8 : P.underlying e = some (.int .u8) := by
    unfold u8Is at hue
    split at hue
    · assumption
    · simp at hue
  simp only [step1] at hs
  split at hs
  · rename_i str hp
    simp only [Option.some.injEq, Prod.mk.injEq] at hs
    obtain ⟨rfl, rfl⟩ := hs
    have r1 := evS_rel k1 hE hp
    generalize hpv : a.eval x' = pv at r1
    cases r1
    have hfr : β h.length = none := hf _ (Nat.le_refl _) (by simp)
    have hge := grownCap_ge w str.size 0 e
    have hsz : (Lib.bytesCells w e str).size = grownCap w str.size 0 e := by
      simp only [Lib.bytesCells, Array.size_append, Array.size_map, Array.size_replicate]
      have : str.data.size = str.size := rfl
      omega
    have hrel : ∀ (i : Nat) (v : SV), (str.data.toList.map fun b => SV.int .u8 (b.toNat : Int))[i]? = some v → ∃ c, (Lib.bytesCells w e str)[i]? = some c ∧ SRel β v c := by
      intro i v hi
      rw [List.getElem?_map, Option.map_eq_some_iff] at hi
      obtain ⟨b, hb, rfl⟩ := hi
      have hi' : i < str.data.size := by simpa using (List.getElem?_eq_some_iff.1 hb).1
      refine ⟨.int .u8 b.toNat, ?_, .int _ _⟩
      rw [Array.getElem?_toList] at hb
      unfold Lib.bytesCells
      rw [Array.getElem?_append_left (by simpa using hi'), Array.getElem?_map, hb]; rfl
    obtain ⟨s1, s2⟩ := alloc_done (R.drawn (w.drawn + 1)) hfr (Lib.bytesCells w e str) e (str.data.toList.map fun b => SV.int .u8 (b.toNat : Int)) 1 (fun t ht => by cases ht) (by decide) (fun h => by cases h) (by
      rw [hsz, List.length_map]
      have : str.data.toList.length = str.size := by simp
      omega) hrel
    obtain ⟨f1, f2⟩ := freeze_done s2 (id := h.length) (cs := str.data.toList.map fun b => SV.int .u8 (b.toNat : Int)) (esz := 1) (by simp) (upd_same _ _ _) (show (1 : ESz).n < 1000000 by decide) (Lib.bytesCells w e str).size 1
    have hset : (h ++ [Blk.cells (str.data.toList.map fun b => SV.int .u8 (b.toNat : Int)) true 1]).set h.length (Blk.cells (str.data.toList.map fun b => SV.int .u8 (b.toNat : Int)) false 1) = h ++ [Blk.cells (str.data.toList.map fun b => SV.int .u8 (b.toNat : Int)) false 1] := by
      rw [List.set_append_right _ _ (Nat.le_refl _)]; simp
    rw [hset] at f1 f2
    have s0 : Stp β h w β h { w with drawn := w.drawn + 1 } := ⟨fun _ _ h => h, fun _ _ h => .inl h, fun id h1 h2 => by omega, Nat.le_refl _, fun b hb => .inr hb, fun id L h1 h2 => by rw [h1] at h2; simp at h2, fun _ _ _ => rfl, Nat.le_refl _, rfl, rfl, rfl⟩
    refine ⟨_, _, (s0.trans s1).trans f1, f2, .slice (some ⟨w.heap.size, 0, none⟩) str.size (grownCap w str.size 0 e), ?_, .sc ?_⟩
    · have hr := Lib.run_convert_string_bytes (P := P) w s t e str hus hut hu8
      simp [execOp, hop, hpv, hr, Lib.bytesWorld, World.drew, -World.drew_eq]
    · refine .slc (upd_same _ _ _) (fun k hk => by cases hk) hge (fun _ => rfl) (fun _ => ⟨Nat.le_refl _, ?_⟩) (show (1 : ESz).n < 1000000 by decide)
      simp [hsz]
  · simp at hs

/-! ### The string of bytes that lie in a row -/
theorem push_all : ∀ (l : List UInt8) (s : ByteArray), (l.map fun b => (b.toNat : Int)).foldl (fun r n => r.push (UInt8.ofNat n.toNat)) s = s ++ ⟨l.toArray⟩
  | [], s => by ext1; simp
  | b :: r, s => by
    simp only [List.map_cons, List.foldl_cons]
    rw [push_all r]
    ext1
    simp
theorem s_cbs {x : AO} {o : Oper} {v : Option AV} {h' : Heap} (hok : okOp P (.cbs x) o.op = true) (hE : ERel β E a.tmps) (R : Rep β h w)
    (hs : step1 E h (.cbs x) = some (v, h')) : Out1 β h w ((execOp a.eval o).run P w) v h' := by
  cases hop : o.op <;> rw [hop] at hok <;> simp only [okOp, Bool.false_eq_true] at hok
  rename_i s t x'
  simp only [Bool.and_eq_true] at hok
  obtain ⟨⟨k1, k2⟩, k3⟩ := hok
  have hud := strIs_some k2
  obtain ⟨e, hut, hue⟩ := elIs_some k3
  have hu8 : P.underlying e = some (.int .u8) := by
    unfold u8Is at hue
    split at hue
    · assumption
    · simp at hue
  simp only [step1] at hs
  split at hs
  · rename_i id off n cap hp
    split at hs
    · rename_i hn
      simp only [Option.bind_eq_some_iff, Option.map_eq_some_iff, Prod.mk.injEq] at hs
      obtain ⟨vs, hrd, l, hl, rfl, rfl⟩ := hs
      have r1 := evS_rel k1 hE hp
      generalize hpv : a.eval x' = pv at r1
      cases r1 with
      | slc hL hcp hl' ho hbd hn' =>
        rename_i L c ad
        have had := ho (by omega)
        subst had
        unfold readN at hrd
        split at hrd
        · rename_i cs rw' esz hg
          obtain ⟨h1, ccs, e', fz, h2, h3, h4, h5, h6⟩ := (R.blk id L cs rw' esz hg hL).cell hn'
          obtain ⟨c1, c2, c3⟩ := cut_some hrd
          obtain ⟨b1, b2⟩ := bytesOf_get hl
          have hload := loadCells_run (P := P) (w := w) (b := L.b) (o := L.base + off) (ws := (l.map fun b => (b.toNat : Int)).map (Value.int .u8)) (fun j v hj => by
            rw [List.map_map, List.getElem?_map, Option.map_eq_some_iff] at hj
            obtain ⟨b, hb, rfl⟩ := hj
            have hv := b2 j b hb
            obtain ⟨-, hcs⟩ := c3 _ _ hv
            obtain ⟨c0, q1, q2⟩ := h5 _ _ hcs
            cases q2
            rw [cell_of_row w L.b _ ccs e' fz h2, Nat.add_assoc]
            exact q1)
          have hlen : ((l.map fun b => (b.toNat : Int)).map (Value.int .u8)).length = n := by simp [b1, c2]
          rw [hlen] at hload
          have hr := run_bytesToString w ⟨L.b, L.base + off, none⟩ n c _ hload
          rw [push_all, show ByteArray.empty ++ (⟨l.toArray⟩ : ByteArray) = ⟨l.toArray⟩ by ext1; simp] at hr
          refine out_pure R (c := .string ⟨l.toArray⟩) ?_ (.sc (.str _))
          have hcv := run_convert_bytes_string (P := P) w s t e (some ⟨L.b, L.base + off, none⟩) n c hut hu8 hud
          rw [hr] at hcv
          simp [execOp, hop, hpv, hcv]
        · cases hrd
    · simp at hs
  · simp at hs

/-! ### Maps and their iterators -/
/-- A new block that is no row of cells. -/
theorem odd_new (R : Rep β h w) (hf : β h.length = none) (o : Obj) (cs : List SV) (esz : ESz) (hn : 1000000 ≤ esz.n)
    (hrel : ∀ β' w', β.le β' → w'.heap = (w.alloc o).heap → (esz.n < 2000000 ∧ BMap β' w' ⟨w.heap.size, 0, 0, esz⟩ cs esz) ∨ (2000000 ≤ esz.n ∧ BIter β' w' ⟨w.heap.size, 0, 0, esz⟩ cs)) :
    Stp β h w (upd β h.length ⟨w.heap.size, 0, 0, esz⟩) (h ++ [.cells cs true esz]) (w.alloc o) ∧ Rep (upd β h.length ⟨w.heap.size, 0, 0, esz⟩) (h ++ [.cells cs true esz]) (w.alloc o) := by
  have hle := upd_le (β := β) (⟨w.heap.size, 0, 0, esz⟩ : Loc) hf
  have hold : ∀ i, i < h.length → upd β h.length ⟨w.heap.size, 0, 0, esz⟩ i = β i := fun i hi => upd_other _ _ (by omega)
  have hsz : ∀ b, b < w.heap.size → (w.alloc o).heap[b]? = w.heap[b]? := fun b hb => Go.RowKit.Below.heap_alloc w _ b hb
  have lt : ∀ (i : Nat) (x : Blk), h[i]? = some x → i < h.length := fun i x hx => (List.getElem?_eq_some_iff.1 hx).1
  refine ⟨⟨hle, ?_, ?_, by simp, ?_, ?_, fun b hb _ => hsz b hb, by simp, rfl, rfl, rfl⟩, ⟨fun id b L hg hL => ?_, ?_, ?_, ⟨Nat.le_trans R.keep.1 (by simp), fun b hb => (hsz b (Nat.lt_of_lt_of_le hb R.keep.1)).trans (R.keep.2 b hb)⟩⟩⟩
  · intro id L hl
    by_cases hi : id = h.length
    · exact .inr (by simp; omega)
    · exact .inl (by rwa [upd_other _ _ hi] at hl)
  · intro id h1 h2
    have : id = h.length := by simp at h2; omega
    subst this
    exact ⟨_, upd_same _ _ _⟩
  · rintro b ⟨id, L, cs', esz', hg, hL, rfl⟩
    rw [get_snoc] at hg
    split at hg
    · rename_i hi; subst hi; rw [upd_same] at hL; simp at hL; subst hL; exact .inl (Nat.le_refl _)
    · rw [hold id (lt _ _ hg)] at hL
      exact .inr ⟨id, L, cs', esz', hg, hL, rfl⟩
  · intro id L h1 h2
    by_cases hi : id = h.length
    · subst hi; rw [upd_same] at h1; simp at h1; subst h1; exact .inl (Nat.le_refl _)
    · rw [upd_other _ _ hi, h2] at h1; simp at h1
  · rw [get_snoc] at hg
    split at hg
    · rename_i hi; subst hi; rw [upd_same] at hL; simp at hL hg; subst hL hg; rfl
    · rw [hold id (lt _ _ hg)] at hL
      exact R.sz id b L hg hL
  · intro id L cs' rw' esz' hg hL
    rw [get_snoc] at hg
    split at hg
    · rename_i hi; subst hi; rw [upd_same] at hL; simp at hL hg
      obtain ⟨rfl, rfl, rfl⟩ := hg
      subst hL
      exact .inr ⟨hn, rfl, hrel _ _ hle rfl, fun _ => R.keep.1⟩
    · rw [hold id (lt _ _ hg)] at hL
      have hb := R.blk id L cs' rw' esz' hg hL
      exact hb.mono hle (hsz _ hb.lt)
  · intro i j L M cs1 e1 cs2 rw2 e2 hi hj hne hL hM
    rw [get_snoc] at hi hj
    split at hi
    · rename_i hii; subst hii
      rw [upd_same] at hL; simp at hL; subst hL
      rw [if_neg (Ne.symm hne)] at hj
      rw [hold j (lt _ _ hj)] at hM
      have := (R.blk j M cs2 rw2 e2 hj hM).lt
      show w.heap.size ≠ M.b
      omega
    · rw [hold i (lt _ _ hi)] at hL
      split at hj
      · rename_i hjj; subst hjj
        rw [upd_same] at hM; simp at hM; subst hM
        have := (R.blk i L cs1 _ e1 hi hL).lt
        show L.b ≠ w.heap.size
        omega
      · rw [hold j (lt _ _ hj)] at hM
        exact R.exc i j L M cs1 e1 cs2 rw2 e2 hi hj hne hL hM
/-- A block that is no row of cells changes. -/
theorem odd_set (R : Rep β h w) {id : Nat} {L : Loc} {cs : List SV} {esz : ESz} (hg : h[id]? = some (.cells cs true esz)) (hL : β id = some L) (hn : 1000000 ≤ L.esz.n) (o : Obj) (cs' : List SV)
    (hrel : ∀ w' : World, w'.heap = w.heap.setIfInBounds L.b o → (esz.n < 2000000 ∧ BMap β w' L cs' esz) ∨ (2000000 ≤ esz.n ∧ BIter β w' L cs')) :
    Stp β h w β (h.set id (.cells cs' true esz)) { w with heap := w.heap.setIfInBounds L.b o } ∧ Rep β (h.set id (.cells cs' true esz)) { w with heap := w.heap.setIfInBounds L.b o } := by
  have hid : id < h.length := (List.getElem?_eq_some_iff.1 hg).1
  have hB := R.blk id L cs true esz hg hL
  have other : ∀ b, b ≠ L.b → (w.heap.setIfInBounds L.b o)[b]? = w.heap[b]? := fun b hb => by simp [Ne.symm hb]
  have hez : L.esz = esz := R.sz id _ L hg hL
  refine ⟨⟨fun _ _ h => h, fun _ _ h => .inl h, fun i h1 h2 => by simp at h2; omega, by simp, ?_, fun id L h1 h2 => by rw [h1] at h2; simp at h2, ?_, by simp, rfl, rfl, rfl⟩, ⟨fun i b M hi hM => ?_, ?_, ?_, ⟨Nat.le_trans R.keep.1 (by simp), fun b hb => (other _ (Nat.ne_of_lt (Nat.lt_of_lt_of_le hb (hB.low rfl)))).trans (R.keep.2 b hb)⟩⟩⟩
  · rintro b ⟨i, M, cs1, e1, hi, hM, rfl⟩
    rw [get_set _ _ _ _ hid] at hi
    split at hi
    · rename_i e; subst e; simp at hi; obtain ⟨rfl, rfl⟩ := hi
      exact .inr ⟨i, M, cs, esz, hg, hM, rfl⟩
    · exact .inr ⟨i, M, cs1, e1, hi, hM, rfl⟩
  · intro b hb hn
    exact other _ fun e => hn ⟨id, L, cs, esz, hg, hL, e.symm⟩
  · rw [get_set _ _ _ _ hid] at hi
    split at hi
    · rename_i e; subst e; simp at hi; subst hi
      exact (R.sz i _ M hg hM : M.esz = esz)
    · exact R.sz i b M hi hM
  · intro i M cs1 rw1 e1 hi hM
    rw [get_set _ _ _ _ hid] at hi
    split at hi
    · rename_i e; subst e; simp at hi; obtain ⟨rfl, rfl, rfl⟩ := hi
      rw [hL] at hM; simp at hM; subst hM
      exact .inr ⟨by rw [← hez]; exact hn, hez, hrel _ rfl, fun _ => hB.low rfl⟩
    · rename_i e
      have hB' := R.blk i M cs1 rw1 e1 hi hM
      have hne : L.b ≠ M.b := R.exc id i L M cs esz cs1 rw1 e1 hg hi (Ne.symm e) hL hM
      exact hB'.mono (fun _ _ h => h) (other _ (Ne.symm hne))
  · intro i j M N cs1 e1 cs2 rw2 e2 hi hj hne hM hN
    rw [get_set _ _ _ _ hid] at hi hj
    split at hi
    · rename_i e; subst e
      rw [if_neg (Ne.symm hne)] at hj
      exact R.exc i j M N cs esz cs2 rw2 e2 hg hj hne hM hN
    · split at hj
      · rename_i e; subst e
        exact R.exc i j M N cs1 e1 cs true esz hi hg hne hM hN
      · exact R.exc i j M N cs1 e1 cs2 rw2 e2 hi hj hne hM hN
/-- A map's block. -/
theorem map_blk (R : Rep β h w) {id : Nat} {L : Loc} {cs : List SV} {rw' : Bool} {z : ESz} (hg : h[id]? = some (.cells cs rw' z)) (hL : β id = some L) (hn : 1000000 ≤ L.esz.n ∧ L.esz.n < 2000000) : BMap β w L cs z := by
  have hz : L.esz = z := R.sz id _ L hg hL
  rw [hz] at hn
  rcases R.blk id L cs rw' z hg hL with h1 | ⟨-, -, ⟨-, h2⟩ | h2, -⟩
  · omega
  · exact h2
  · omega
theorem iter_blk (R : Rep β h w) {id : Nat} {L : Loc} {cs : List SV} {rw' : Bool} {z : ESz} (hg : h[id]? = some (.cells cs rw' z)) (hL : β id = some L) (hn : 2000000 ≤ L.esz.n) : BIter β w L cs := by
  have hz : L.esz = z := R.sz id _ L hg hL
  rw [hz] at hn
  rcases R.blk id L cs rw' z hg hL with h1 | ⟨-, -, h2 | ⟨-, h2⟩, -⟩
  · omega
  · omega
  · exact h2
theorem VRel.av {xs : List SV} {v : Value} (h : VRel β xs v) : ARel β (mpAV xs) v ∧ PRel β (mpPV xs) v := by
  rcases h with ⟨x, rfl, h2⟩ | ⟨h0, vs, rfl, h2⟩
  · exact ⟨.sc h2, .sc h2⟩
  · match xs, h0 with
    | [], _ => exact ⟨.agg h2, .agg h2⟩
    | [_], h0 => exact absurd rfl h0
    | _ :: _ :: _, _ => exact ⟨.agg h2, .agg h2⟩
theorem mpOK_rel {v : AV} {c : Value} {vs : List SV} (h : ARel β v c) (hv : mpOK v = some vs) : VRel β vs c := by
  cases h with
  | sc h => simp [mpOK] at hv; subst hv; exact .inl ⟨_, rfl, h⟩
  | agg h =>
    simp [mpOK] at hv
    obtain ⟨h0, rfl⟩ := hv
    exact .inr ⟨h0, _, rfl, h⟩
  | tup h => simp [mpOK] at hv
/-! ### Maps and their iterators -/
theorem ints_len : ∀ {ks : List SV} {ns : List Int}, intsOf ks = some ns → ks = ns.map (SV.int .i64)
  | [], ns, h => by simp [intsOf] at h; subst h; rfl
  | x :: r, ns, h => by
    unfold intsOf at h
    split at h
    · rename_i hx; cases hx
    · rename_i n r' hx
      cases hx
      simp only [Option.map_eq_some_iff] at h
      obtain ⟨m, h1, rfl⟩ := h
      rw [ints_len h1]; rfl
    · cases h
theorem intsOf_map (ns : List Int) : intsOf (ns.map (SV.int .i64)) = some ns := by
  induction ns with
  | nil => rfl
  | cons n r ih => simp [intsOf, ih]
/-- A key's value. -/
def keyV : List Int → Value
  | [n] => .int .i64 n
  | ns => .agg (ns.map (Value.int .i64)).toArray
theorem F2.ints {ns : List Int} {vs : List Value} (h : F2 (SRel β) (ns.map (SV.int .i64)) vs) : vs = ns.map (Value.int .i64) := by
  induction ns generalizing vs with
  | nil => cases h; rfl
  | cons n r ih =>
    cases h with
    | cons h1 h2 => cases h1; rw [ih h2]; rfl
theorem VRel.key {ns : List Int} {v : Value} (h : VRel β (ns.map (SV.int .i64)) v) : v = keyV ns := by
  rcases h with ⟨x, h1, h2⟩ | ⟨h0, vs, rfl, h2⟩
  · match ns, h1 with
    | [n], h1 => cases h1; cases h2; rfl
  · rw [F2.ints h2]
    match ns, h0 with
    | [], _ => rfl
    | [_], h0 => exact absurd rfl h0
    | _ :: _ :: _, _ => rfl
theorem mpZero_some {t kt et : TypeId} {zero : List SV} (hu : P.underlying t = some (.map kt et)) (h : mpZero P t zero = true) : ∃ v, (∀ w, (zeroValue et).run P w = .ok v w) ∧ ∀ β, VRel β zero v := by
  unfold mpZero at h
  rw [hu] at h
  simp only at h
  split at h
  · rename_i i hi
    split at h
    · rename_i vs hz
      simp only [Bool.and_eq_true, decide_eq_true_eq] at h
      exact ⟨.agg vs, fun w => by simp [zeroValue, typeInfo, hi, hz], fun β => .inr ⟨h.1, vs.toList, by simp, okCells_rel h.2⟩⟩
    · rename_i v hv hz
      split at h
      · exact ⟨v, fun w => by simp [zeroValue, typeInfo, hi, hz], fun β => .inl ⟨_, rfl, okSV_rel h⟩⟩
      · cases h
    · cases h
  · cases h
theorem s_mpM {z : ESz} {o : Oper} {v : Option AV} {h' : Heap} (hok : okOp P (.mpM z) o.op = true) (hE : ERel β E a.tmps) (R : Rep β h w) (hf : fresh β h h')
    (hs : step1 E h (.mpM z) = some (v, h')) : Out1 β h w ((execOp a.eval o).run P w) v h' := by
  cases hop : o.op <;> rw [hop] at hok <;> simp [okOp] at hok
  rename_i t r
  obtain ⟨rfl, hm⟩ := hok
  simp only [step1] at hs
  split at hs
  · rename_i hz
    simp only [Option.some.injEq, Prod.mk.injEq] at hs
    obtain ⟨rfl, rfl⟩ := hs
    obtain ⟨q1, q2⟩ := odd_new R hf.one (.map #[] 0) [] z hz.1 (fun β' w' hb hw => .inl ⟨hz.2.1, #[], by rw [hw]; exact Go.heap_alloc_new w _, by simp, hz.2.2, by simp, by simp⟩)
    refine ⟨_, _, q1, q2, .map (some w.heap.size), ?_, .sc ?_⟩
    · simp [execOp, hop, Instr.makeMap]
    · exact SRel.mapv (upd_same β h.length (⟨w.heap.size, 0, 0, z⟩ : Loc)) ⟨hz.1, hz.2.1⟩
  · cases hs
/-- The search for a key. -/
theorem findNow_int (n : Int) : ∀ (l : List MapEntry) (ks : List (List Int)) (i : Nat), l.map (·.key) = ks.map keyV → (∀ k ∈ ks, k.length = 1) →
    Instr.findNow (.int .i64) (.int .i64 n) l i = some ((ks.findIdx? (· == [n])).bind fun j => (l[j]?).map fun e => (i + j, e.val))
  | [], [], i, h, _ => rfl
  | [], k :: ks, i, h, _ => by simp at h
  | e :: l, [], i, h, _ => by simp at h
  | e :: l, k :: ks, i, h, hl => by
    simp only [List.map_cons, List.cons.injEq] at h
    obtain ⟨h1, h2⟩ := h
    obtain ⟨m, rfl⟩ : ∃ m, k = [m] := List.length_eq_one_iff.1 (hl k (by simp))
    have h1' : e.key = .int .i64 m := h1
    simp only [Instr.findNow, h1', Instr.sameNow, if_true]
    by_cases hk : m = n
    · subst hk
      simp [List.findIdx?_cons]
    · have h3 : (n == m) = false := by simp; omega
      have h4 : (([m] : List Int) == [n]) = false := by simp [hk]
      rw [h3]
      simp only [List.findIdx?_cons, h4]
      rw [findNow_int n l ks (i + 1) h2 fun k hk => hl k (by simp [hk])]
      simp only [Bool.false_eq_true, if_false]
      congr 1
      cases hx : ks.findIdx? (· == [n]) with
      | none => rfl
      | some j => simp [Nat.add_assoc, Nat.add_comm 1 j]
/-- A kind of key that is searched for as the integers of it are. -/
structure KeyL (P : Program) (kt : TypeId) (kw : Nat) : Prop where
  check : ∀ (w : World) (em : Bool) (ns : List Int), ns.length = kw → (Instr.checkKey em 10000 kt (keyV ns)).run P w = .ok () w
  find : ∀ (w : World) (ns : List Int) (l : List MapEntry) (ks : List (List Int)), ns.length = kw → l.map (·.key) = ks.map keyV → (∀ k ∈ ks, k.length = kw) →
    (Instr.findKey kt (keyV ns) l).run P w = .ok ((ks.findIdx? (· == ns)).bind fun j => (l[j]?).map fun e => (0 + j, e.val)) w
  stays : ∀ (w : World) (ns : List Int), ns.length = kw → (Instr.keyThatStays (keyV ns) (keyV ns)).run P w = .ok (keyV ns) w
theorem keyL_int {kt : TypeId} (hkt : P.underlying kt = some (.int .i64)) : KeyL P kt 1 := by
  have one : ∀ ns : List Int, ns.length = 1 → ∃ n, ns = [n] := fun ns h => List.length_eq_one_iff.1 h
  refine ⟨fun w em ns h => ?_, fun w ns l ks h h1 h2 => ?_, fun w ns h => ?_⟩
  · obtain ⟨n, rfl⟩ := one ns h
    exact MapKept.run_checkKey (P := P) (w := w) hkt (k := .int .i64 n) (by simp [MapKept.IsKey]) em 9999
  · obtain ⟨n, rfl⟩ := one ns h
    exact MapKept.run_findKey (P := P) (w := w) hkt (findNow_int n l ks 0 h1 h2)
  · obtain ⟨n, rfl⟩ := one ns h
    exact MapKept.run_keyThatStays (P := P) (w := w) (show MapKept.IsKey (.int .i64) (.int .i64 n) by simp [MapKept.IsKey])
theorem findAsking_arr {w : World} {kt : TypeId} (a b : Int) (he : ∀ c d : Int, (Op.equal kt (keyV [a, b]) (keyV [c, d])).run P w = .ok (a == c && b == d) w) : ∀ (l : List MapEntry) (ks : List (List Int)) (i : Nat), l.map (·.key) = ks.map keyV → (∀ k ∈ ks, k.length = 2) →
    (Instr.findAsking kt (keyV [a, b]) l i).run P w = .ok ((ks.findIdx? (· == [a, b])).bind fun j => (l[j]?).map fun e => (i + j, e.val)) w
  | [], [], i, h, _ => rfl
  | [], k :: ks, i, h, _ => by simp at h
  | e :: l, [], i, h, _ => by simp at h
  | e :: l, k :: ks, i, h, hl => by
    simp only [List.map_cons, List.cons.injEq] at h
    obtain ⟨h1, h2⟩ := h
    obtain ⟨c, d, rfl⟩ : ∃ c d, k = [c, d] := by
      have := hl k (by simp)
      match k, this with
      | [c, d], _ => exact ⟨c, d, rfl⟩
    have ih := findAsking_arr a b he l ks (i + 1) h2 fun k hk => hl k (by simp [hk])
    simp only [Instr.findAsking, h1, Sem.run_bind, he, Result.andThen_ok]
    by_cases hk : a = c ∧ b = d
    · obtain ⟨rfl, rfl⟩ := hk
      simp [List.findIdx?_cons]
    · have h3 : (a == c && b == d) = false := by
        rw [Bool.eq_false_iff]
        simpa using hk
      have h4 : (([c, d] : List Int) == [a, b]) = false := by
        rw [Bool.eq_false_iff]
        intro h
        have := eq_of_beq h
        simp only [List.cons.injEq, and_true] at this
        exact hk ⟨this.1.symm, this.2.symm⟩
      rw [h3]
      simp only [List.findIdx?_cons, h4, Bool.false_eq_true, if_false, ih]
      congr 1
      cases hx : ks.findIdx? (· == [a, b]) with
      | none => rfl
      | some j => simp [Nat.add_assoc, Nat.add_comm 1 j]
theorem keyL_arr {kt e : TypeId} (hu : P.underlying kt = some (.array 2 e)) (hsz : szIs P e 1 = true) (he : P.underlying e = some (.int .i64)) : KeyL P kt 2 := by
  have hag : aggIs P e false = true := by simp [aggIs, he]
  obtain ⟨i, hi, hi1⟩ : ∃ i, P.info? e = some i ∧ i.size = 1 := by
    unfold szIs at hsz
    split at hsz
    · exact ⟨_, by assumption, by simpa using hsz⟩
    · simp at hsz
  have hc : P.cellsOf e = 1 := by simp [Program.cellsOf, hi, hi1]
  have two : ∀ ns : List Int, ns.length = 2 → ∃ a b, ns = [a, b] := fun ns h => by
    match ns, h with
    | [a, b], _ => exact ⟨a, b, rfl⟩
  have hp : ∀ (w : World) (a b : Int), (part e #[.int .i64 a, .int .i64 b] 0).run P w = .ok (.int .i64 a) w ∧ (part e #[.int .i64 a, .int .i64 b] 1).run P w = .ok (.int .i64 b) w := fun w a b => ⟨by simp [part, run_agg hag], by simp [part, run_agg hag]⟩
  have hs : ∀ w : World, (sizeOf e).run P w = .ok 1 w := fun w => by simp [sizeOf, typeInfo, hi, hi1]
  refine ⟨fun w em ns h => ?_, fun w ns l ks h h1 h2 => ?_, fun w ns h => ?_⟩
  · obtain ⟨a, b, rfl⟩ := two ns h
    have hk : ∀ (m : Nat) (n : Int), (Instr.checkKey em (m + 1) e (.int .i64 n)).run P w = .ok () w := fun m n => by simp [Instr.checkKey, run_und he]
    have key : ∀ m : Nat, (Instr.checkKey em (m + 2) kt (.agg #[.int .i64 a, .int .i64 b])).run P w = .ok () w := fun m => by
      rw [show m + 2 = (m + 1) + 1 from rfl, Instr.checkKey]
      simp [run_und hu, Std.Legacy.Range.forIn_eq_forIn_range', Std.Legacy.Range.size, List.range', hs, hp, hk, Result.andThen]
    exact key 9998
  · obtain ⟨a, b, rfl⟩ := two ns h
    have heq : ∀ c d : Int, (Op.equal kt (keyV [a, b]) (keyV [c, d])).run P w = .ok (a == c && b == d) w := fun c d => by
      have hrun := eqItems_ints (P := P) (β := fun _ => none) (w := w) 9998 he hag #[.int .i64 a, .int .i64 b] #[.int .i64 c, .int .i64 d] [.int .i64 a, .int .i64 b] [.int .i64 c, .int .i64 d] 0 (a == c && b == d) (fun i v hi => by
        match i, hi with
        | 0, hi => cases hi; exact ⟨_, rfl, .int _ _⟩
        | 1, hi => cases hi; exact ⟨_, rfl, .int _ _⟩) (fun i v hi => by
        match i, hi with
        | 0, hi => cases hi; exact ⟨_, rfl, .int _ _⟩
        | 1, hi => cases hi; exact ⟨_, rfl, .int _ _⟩) (by simp only [eqInts, if_true, Option.map_some, Bool.and_true]; rfl)
      have hq := run_equalIn_array (w := w) 9999 #[.int .i64 a, .int .i64 b] #[.int .i64 c, .int .i64 d] hu hi
      rw [hc, List.range_eq_range', show 2 = ([SV.int .i64 a, SV.int .i64 b] : List SV).length from rfl, hrun] at hq
      exact hq
    have hf := findAsking_arr a b heq l ks 0 h1 h2
    cases l with
    | nil =>
      cases ks with
      | nil => simp [Instr.findKey, run_und hu, Instr.findNow]
      | cons k ks => simp at h1
    | cons x l =>
      have hn : Instr.findNow (.array 2 e) (keyV [a, b]) (x :: l) 0 = none := by simp [Instr.findNow, Instr.sameNow]
      simp only [Instr.findKey, Sem.run_bind, run_und hu, Result.andThen_ok, hn]
      exact hf
  · obtain ⟨a, b, rfl⟩ := two ns h
    show (Instr.keyThatStays (.agg #[.int .i64 a, .int .i64 b]) (.agg #[.int .i64 a, .int .i64 b])).run P w = _
    simp [Instr.keyThatStays, Instr.sameBits, keyV]
theorem mpIs_some {t : TypeId} {z : ESz} (h : mpIs P t z = true) : ∃ kt et, P.underlying t = some (.map kt et) ∧ 1000000 ≤ z.n ∧ z.n < 2000000 ∧ KeyL P kt z.kw := by
  unfold mpIs at h
  split at h
  · rename_i kt et hu
    simp only [Bool.and_eq_true, decide_eq_true_eq] at h
    obtain ⟨⟨h1, h2⟩, h3⟩ := h
    split at h3
    · rename_i hk
      simp only [decide_eq_true_eq] at h3
      exact ⟨kt, et, hu, h1, h2, by rw [h3]; exact keyL_int hk⟩
    · rename_i e hk
      simp only [Bool.and_eq_true, decide_eq_true_eq] at h3
      obtain ⟨⟨h3, h4⟩, h5⟩ := h3
      split at h5
      · rename_i he
        exact ⟨kt, et, hu, h1, h2, by rw [h3]; exact keyL_arr hk h4 he⟩
      · cases h5
    · cases h3
  · cases h
theorem keysI_len (z : ESz) (cs : List SV) : (keysI z cs).length = cs.length / (z.kw + z.vw) := by simp [keysI]
theorem map_size {L : Loc} {cs : List SV} {z : ESz} {n : Nat} (h1 : cs.length = n * (z.kw + z.vw)) (h0 : z.kw ≠ 0) : cs.length / (z.kw + z.vw) = n := by
  rw [h1]; exact Nat.mul_div_cancel _ (by omega)
theorem entK_len {cs : List SV} {z : ESz} {n i : Nat} (h1 : cs.length = n * (z.kw + z.vw)) (hi : i < n) : (entK z cs i).length = z.kw ∧ (entV z cs i).length = z.vw := by
  have h2 : (i + 1) * (z.kw + z.vw) ≤ n * (z.kw + z.vw) := Nat.mul_le_mul_right _ hi
  have h3 : (i + 1) * (z.kw + z.vw) = i * (z.kw + z.vw) + (z.kw + z.vw) := by rw [Nat.add_mul, Nat.one_mul]
  unfold entK entV
  rw [List.length_take, List.length_take, List.length_drop, List.length_drop]
  omega
theorem map_keys {cs : List SV} {z : ESz} {es : Array MapEntry} (h1 : cs.length = es.size * (z.kw + z.vw)) (h0 : z.kw ≠ 0) (hk : ∀ (i : Nat) (e : MapEntry), es[i]? = some e → VRel β (entK z cs i) e.key) (hint : ∀ i, i < es.size → ∃ ns : List Int, entK z cs i = ns.map (.int .i64)) :
    es.toList.map (·.key) = (keysI z cs).map keyV ∧ ∀ k ∈ keysI z cs, k.length = z.kw := by
  have hd : cs.length / (z.kw + z.vw) = es.size := by rw [h1]; exact Nat.mul_div_cancel _ (by omega)
  have at' : ∀ i, i < es.size → ∃ ns : List Int, (keysI z cs)[i]? = some ns ∧ entK z cs i = ns.map (.int .i64) := fun i hi => by
    obtain ⟨ns, hn⟩ := hint i hi
    refine ⟨ns, ?_, hn⟩
    unfold keysI
    rw [List.getElem?_map, List.getElem?_range (by rw [hd]; exact hi)]
    simp [hn, intsOf_map]
  constructor
  · refine List.ext_getElem? fun i => ?_
    rw [List.getElem?_map, List.getElem?_map, Array.getElem?_toList]
    by_cases hi : i < es.size
    · have he : es[i]? = some es[i] := Array.getElem?_eq_getElem hi
      obtain ⟨ns, q1, q2⟩ := at' i hi
      have := hk i _ he
      rw [q2] at this
      rw [he, q1, Option.map_some, Option.map_some, this.key]
    · rw [Array.getElem?_eq_none (by omega), List.getElem?_eq_none (by rw [keysI_len, hd]; omega)]
      rfl
  · intro k hk
    obtain ⟨i, hi⟩ := List.mem_iff_getElem?.1 hk
    have hil := (List.getElem?_eq_some_iff.1 hi).1
    rw [keysI_len, hd] at hil
    obtain ⟨ns, q1, q2⟩ := at' i hil
    rw [hi] at q1
    cases q1
    have := (entK_len h1 hil).1
    rw [q2, List.length_map] at this
    exact this
/-- What the search finds. -/
theorem find_at {cs : List SV} {z : ESz} {es : Array MapEntry} (hd : cs.length / (z.kw + z.vw) = es.size) (ns : List Int) : (findI z cs ns = none ∧ ((keysI z cs).findIdx? (· == ns)).bind (fun j => (es.toList[j]?).map fun e => (0 + j, e.val)) = none) ∨
    ∃ j e, findI z cs ns = some j ∧ es[j]? = some e ∧ j < es.size ∧ ((keysI z cs).findIdx? (· == ns)).bind (fun j => (es.toList[j]?).map fun e => (0 + j, e.val)) = some (j, e.val) := by
  unfold findI
  cases hx : (keysI z cs).findIdx? (· == ns) with
  | none => exact .inl ⟨rfl, rfl⟩
  | some j =>
    have hj : j < es.size := by
      have := (List.findIdx?_eq_some_iff_findIdx_eq.1 hx).1
      rwa [keysI_len, hd] at this
    exact .inr ⟨j, es[j], rfl, Array.getElem?_eq_getElem hj, hj, by simp [hj]⟩
theorem s_mpL {z : ESz} {zero : List SV} {ok : Bool} {x k : AO} {o : Oper} {v : Option AV} {h' : Heap} (hok : okOp P (.mpL z zero ok x k) o.op = true) (hE : ERel β E a.tmps) (R : Rep β h w)
    (hs : step1 E h (.mpL z zero ok x k) = some (v, h')) : Out1 β h w ((execOp a.eval o).run P w) v h' := by
  cases hop : o.op <;> rw [hop] at hok <;> simp [okOp] at hok
  rename_i t x' k' ok'
  obtain ⟨⟨⟨⟨rfl, k1⟩, k2⟩, k3⟩, k4⟩ := hok
  obtain ⟨kt, et, hu, hz1, hz2, hK⟩ := mpIs_some k3
  obtain ⟨zv, hzv, hzr⟩ := mpZero_some hu k4
  simp only [step1] at hs
  split at hs
  case h_2 => cases hs
  rename_i id hp
  split at hs
  case h_2 => cases hs
  rename_i cs e hg
  split at hs
  case isFalse => cases hs
  rename_i he
  subst he
  simp only [Option.bind_eq_some_iff] at hs
  obtain ⟨kv, hkv, ks, hks, ns, hns, hs⟩ := hs
  split at hs
  case isFalse => cases hs
  rename_i hnl
  simp only [Option.some.injEq, Prod.mk.injEq] at hs
  obtain ⟨rfl, rfl⟩ := hs
  have r1 := evS_rel k1 hE hp
  have r2 := ev_rel k2 hE hkv
  have hkey : a.eval k' = keyV ns := by
    have := mpOK_rel r2 hks
    rw [ints_len hns] at this
    exact this.key
  generalize hpv : a.eval x' = pv at r1
  cases r1 with
  | mapv hL hn =>
    rename_i L
    obtain ⟨es, q1, q2, q3, q4, q5⟩ := map_blk R hg hL hn
    have hd := map_size (L := L) q2 q3
    obtain ⟨m1, m2⟩ := map_keys q2 q3 (fun i e he => (q4 i e he).2.1) q5
    have hck := hK.check w es.isEmpty ns hnl
    have hfk := hK.find w ns es.toList (keysI e cs) hnl m1 m2
    have hgo := MapKept.run_getObj_map (P := P) q1
    rcases find_at (cs := cs) (z := e) hd ns with ⟨f1, f2⟩ | ⟨j, en, f1, f2, f3, f4⟩
    · rw [f2] at hfk
      rw [f1]
      cases ok
      · refine out_pure R (c := zv) ?_ (hzr β).av.1
        simp [execOp, hop, hpv, hkey, Instr.lookup, run_und hu, hgo, hck, hfk, hzv w, Result.andThen]
      · refine out_pure R (c := .tuple #[zv, .bool false]) ?_ (.tup (.cons (hzr β).av.2 (.cons (.sc (.bool false)) .nil)))
        simp [execOp, hop, hpv, hkey, Instr.lookup, run_und hu, hgo, hck, hfk, hzv w, Result.andThen]
    · rw [f4] at hfk
      rw [f1]
      have hv := (q4 j en f2).2.2.av
      cases ok
      · refine out_pure R (c := en.val) ?_ hv.1
        simp [execOp, hop, hpv, hkey, Instr.lookup, run_und hu, hgo, hck, hfk, Result.andThen]
      · refine out_pure R (c := .tuple #[en.val, .bool true]) ?_ (.tup (.cons hv.2 (.cons (.sc (.bool true)) .nil)))
        simp [execOp, hop, hpv, hkey, Instr.lookup, run_und hu, hgo, hck, hfk, Result.andThen]
theorem ent_app {z : ESz} {cs r : List SV} {n i : Nat} (h1 : cs.length = n * (z.kw + z.vw)) (hi : i < n) : entK z (cs ++ r) i = entK z cs i ∧ entV z (cs ++ r) i = entV z cs i := by
  have h2 : (i + 1) * (z.kw + z.vw) ≤ n * (z.kw + z.vw) := Nat.mul_le_mul_right _ hi
  have h3 : (i + 1) * (z.kw + z.vw) = i * (z.kw + z.vw) + (z.kw + z.vw) := by rw [Nat.add_mul, Nat.one_mul]
  unfold entK entV
  constructor
  · rw [List.drop_append_of_le_length (by omega), List.take_append_of_le_length (by rw [List.length_drop]; omega)]
  · rw [List.drop_append_of_le_length (by omega), List.take_append_of_le_length (by rw [List.length_drop]; omega)]
theorem ent_last {z : ESz} {cs ks vs : List SV} {n : Nat} (h1 : cs.length = n * (z.kw + z.vw)) (hk : ks.length = z.kw) (hv : vs.length = z.vw) : entK z (cs ++ ks ++ vs) n = ks ∧ entV z (cs ++ ks ++ vs) n = vs := by
  unfold entK entV
  rw [← h1]
  constructor
  · rw [List.append_assoc, List.drop_left, ← hk, List.take_left]
  · rw [← hk, show cs.length + ks.length = (cs ++ ks).length by simp, List.drop_left, ← hv, List.take_length]
theorem ent_set {z : ESz} {cs vs : List SV} {n i j : Nat} (h1 : cs.length = n * (z.kw + z.vw)) (hv : vs.length = z.vw) (hi : i < n) (hj : j < n) :
    entK z (splice cs (j * (z.kw + z.vw) + z.kw) vs) i = entK z cs i ∧ entV z (splice cs (j * (z.kw + z.vw) + z.kw) vs) i = if i = j then vs else entV z cs i := by
  generalize hm : z.kw + z.vw = m at *
  have e : ∀ a, (a + 1) * m = a * m + m := fun a => by rw [Nat.add_mul, Nat.one_mul]
  have hj2 : (j + 1) * m ≤ n * m := Nat.mul_le_mul_right _ hj
  have hi2 : (i + 1) * m ≤ n * m := Nat.mul_le_mul_right _ hi
  have hsp : j * m + z.kw + vs.length ≤ cs.length := by have := e j; omega
  have ord : (i + 1) * m ≤ j * m ∨ i = j ∨ (j + 1) * m ≤ i * m := by
    rcases Nat.lt_trichotomy i j with h | h | h
    · exact .inl (Nat.mul_le_mul_right _ h)
    · exact .inr (.inl h)
    · exact .inr (.inr (Nat.mul_le_mul_right _ h))
  have ei := e i
  have ej := e j
  constructor
  · refine List.ext_getElem? fun k => ?_
    unfold entK
    rw [hm, List.getElem?_take, List.getElem?_take, List.getElem?_drop, List.getElem?_drop, splice_get _ _ _ hsp]
    by_cases hk : k < z.kw
    · rw [if_pos hk, if_pos hk]
      by_cases c1 : i * m + k < j * m + z.kw
      · rw [if_pos c1]
      · rw [if_neg c1, if_neg ?_]
        rcases ord with h | rfl | h <;> omega
    · rw [if_neg hk, if_neg hk]
  · by_cases hij : i = j
    · subst hij
      rw [if_pos rfl]
      refine List.ext_getElem? fun k => ?_
      unfold entV
      rw [hm, List.getElem?_take, List.getElem?_drop, splice_get _ _ _ hsp]
      by_cases hk : k < z.vw
      · rw [if_pos hk, if_neg (by omega), if_pos (by omega), show i * m + z.kw + k - (i * m + z.kw) = k by omega]
      · rw [if_neg hk, List.getElem?_eq_none (by omega)]
    · rw [if_neg hij]
      refine List.ext_getElem? fun k => ?_
      unfold entV
      rw [hm, List.getElem?_take, List.getElem?_take, List.getElem?_drop, List.getElem?_drop, splice_get _ _ _ hsp]
      by_cases hk : k < z.vw
      · rw [if_pos hk, if_pos hk]
        rcases ord with h | h | h
        · rw [if_pos (by omega)]
        · exact absurd h hij
        · rw [if_neg (by omega), if_neg (by omega)]
      · rw [if_neg hk, if_neg hk]
theorem s_mpU {z : ESz} {x k y : AO} {o : Oper} {v : Option AV} {h' : Heap} (hok : okOp P (.mpU z x k y) o.op = true) (hE : ERel β E a.tmps) (R : Rep β h w)
    (hs : step1 E h (.mpU z x k y) = some (v, h')) : Out1 β h w ((execOp a.eval o).run P w) v h' := by
  cases hop : o.op <;> rw [hop] at hok <;> simp [okOp] at hok
  rename_i t x' k' y'
  obtain ⟨⟨⟨k1, k2⟩, k3⟩, k4⟩ := hok
  obtain ⟨kt, et, hu, hz1, hz2, hK⟩ := mpIs_some k4
  simp only [step1] at hs
  split at hs
  case h_2 => cases hs
  rename_i id hp
  split at hs
  case h_2 => cases hs
  rename_i cs e hg
  split at hs
  case isFalse => cases hs
  rename_i he
  subst he
  simp only [Option.bind_eq_some_iff] at hs
  obtain ⟨kv, hkv, ks, hks, ns, hns, yv, hyv, ys, hys, hs⟩ := hs
  split at hs
  case isFalse => cases hs
  rename_i hnl
  simp only [Option.some.injEq, Prod.mk.injEq] at hs
  obtain ⟨rfl, rfl⟩ := hs
  have r1 := evS_rel k1 hE hp
  have r2 := ev_rel k2 hE hkv
  have r3 := ev_rel k3 hE hyv
  have hkey : a.eval k' = keyV ns := by
    have := mpOK_rel r2 hks
    rw [ints_len hns] at this
    exact this.key
  have hkr := mpOK_rel r2 hks
  have hval := mpOK_rel r3 hys
  have hksl : ks.length = e.kw := by rw [ints_len hns, List.length_map]; exact hnl.1
  generalize hpv : a.eval x' = pv at r1
  generalize hyv' : a.eval y' = yw at r3 hval
  cases r1 with
  | mapv hL hn =>
    rename_i L
    obtain ⟨es, q1, q2, q3, q4, q5⟩ := map_blk R hg hL hn
    have hd := map_size (L := L) q2 q3
    obtain ⟨m1, m2⟩ := map_keys q2 q3 (fun i e he => (q4 i e he).2.1) q5
    have hck := hK.check w false ns hnl.1
    have hfk := hK.find w ns es.toList (keysI e cs) hnl.1 m1 m2
    have hgo := MapKept.run_getObj_map (P := P) q1
    have hset := fun o => MapKept.run_setObj_map (P := P) o q1
    have hLb : L.b < w.heap.size := (Array.getElem?_eq_some_iff.1 q1).1
    rw [hkey] at hkr
    rcases find_at (cs := cs) (z := e) hd ns with ⟨f1, f2⟩ | ⟨j, en, f1, f2, f3, f4⟩
    · rw [f2] at hfk
      rw [f1]
      have hsz : (cs ++ ks ++ ys).length = (es.size + 1) * (e.kw + e.vw) := by
        rw [List.length_append, List.length_append, q2, hksl, hnl.2, Nat.add_mul, Nat.one_mul]; omega
      have hB : ∀ w' : World, w'.heap = w.heap.setIfInBounds L.b (.map (es.push { key := keyV ns, val := yw, born := es.size }) (es.size + 1)) → BMap β w' L (cs ++ ks ++ ys) e := fun w' hw' => by
        refine ⟨es.push { key := keyV ns, val := yw, born := es.size }, by rw [hw']; simp [hLb], by simpa using hsz, q3, fun i en' hi => ?_, fun i hi => ?_⟩
        · rcases Nat.lt_or_ge i es.size with hlt | hge
          · rw [Array.getElem?_push, if_neg (by omega)] at hi
            have := ent_app (r := ks ++ ys) q2 hlt
            rw [← List.append_assoc] at this
            rw [this.1, this.2]
            exact q4 i en' hi
          · have : i = es.size := by
              have := (Array.getElem?_eq_some_iff.1 hi).1
              simp at this; omega
            subst this
            rw [Array.getElem?_push, if_pos rfl] at hi
            cases hi
            obtain ⟨l1, l2⟩ := ent_last q2 hksl hnl.2
            rw [l1, l2]
            exact ⟨rfl, hkr, hval⟩
        · rcases Nat.lt_or_ge i es.size with hlt | hge
          · have := ent_app (r := ks ++ ys) q2 hlt
            rw [← List.append_assoc] at this
            rw [this.1]
            exact q5 i hlt
          · have : i = es.size := by simp at hi; omega
            subst this
            rw [(ent_last q2 hksl hnl.2).1]
            exact ⟨ns, ints_len hns⟩
      obtain ⟨g1, g2⟩ := odd_set R hg hL hn.1 (.map (es.push { key := keyV ns, val := yw, born := es.size }) (es.size + 1)) (cs ++ ks ++ ys) fun w' hw' => .inl ⟨hz2, hB w' hw'⟩
      refine ⟨β, _, g1, g2, ?_⟩
      simp [execOp, hop, hpv, hkey, hyv', Instr.mapUpdate, run_und hu, hgo, hck, hfk, hset, Result.andThen]
    · rw [f4] at hfk
      rw [f1]
      have hk3 : en.key = keyV ns := by
        have h1 := List.findIdx?_eq_some_iff_findIdx_eq.1 (show (keysI e cs).findIdx? (· == ns) = some j from f1)
        have h2 : (keysI e cs)[j]? = some ns := by
          have hjl : j < (keysI e cs).length := h1.1
          have h3 := List.findIdx_getElem (xs := keysI e cs) (p := (· == ns)) (w := by rw [h1.2]; exact hjl)
          simp only [h1.2] at h3
          rw [List.getElem?_eq_getElem hjl]
          simpa using h3
        have h3 := congrArg (fun l => l[j]?) m1
        simp only [List.getElem?_map, Array.getElem?_toList, f2, h2, Option.map_some, Option.some.injEq] at h3
        exact h3
      have hB : ∀ w' : World, w'.heap = w.heap.setIfInBounds L.b (.map (es.modify j fun e => { e with key := keyV ns, val := yw }) es.size) → BMap β w' L (splice cs (j * (e.kw + e.vw) + e.kw) ys) e := fun w' hw' => by
        refine ⟨es.modify j fun e => { e with key := keyV ns, val := yw }, by rw [hw']; simp [hLb], ?_, q3, fun i en' hi => ?_, fun i hi => ?_⟩
        · have h2 : (j + 1) * (e.kw + e.vw) ≤ es.size * (e.kw + e.vw) := Nat.mul_le_mul_right _ f3
          have h3 : (j + 1) * (e.kw + e.vw) = j * (e.kw + e.vw) + (e.kw + e.vw) := by rw [Nat.add_mul, Nat.one_mul]
          rw [splice_len _ _ _ (by rw [q2, hnl.2]; omega)]; simpa using q2
        · rw [Array.getElem?_modify] at hi
          have hil : i < es.size := by
            split at hi
            · rename_i e'; subst e'; exact f3
            · exact (Array.getElem?_eq_some_iff.1 hi).1
          obtain ⟨l1, l2⟩ := ent_set (cs := cs) (vs := ys) q2 hnl.2 hil f3
          rw [l1, l2]
          split at hi
          · rename_i e'
            subst e'
            rw [f2] at hi
            simp at hi
            subst hi
            rw [if_pos rfl]
            refine ⟨(q4 j en f2).1, ?_, hval⟩
            have := (q4 j en f2).2.1
            rwa [hk3] at this
          · rename_i e'
            rw [if_neg (Ne.symm e')]
            exact q4 i en' hi
        · have hil : i < es.size := by simpa using hi
          rw [(ent_set (cs := cs) (vs := ys) q2 hnl.2 hil f3).1]
          exact q5 i hil
      obtain ⟨g1, g2⟩ := odd_set R hg hL hn.1 (.map (es.modify j fun e => { e with key := keyV ns, val := yw }) es.size) (splice cs (j * (e.kw + e.vw) + e.kw) ys) fun w' hw' => .inl ⟨hz2, hB w' hw'⟩
      refine ⟨β, _, g1, g2, ?_⟩
      simp [execOp, hop, hpv, hkey, hyv', Instr.mapUpdate, run_und hu, hgo, hck, hfk, hset, f2, hk3, hK.stays _ ns hnl.1, Result.andThen]
theorem set_self {α : Type} {l : List α} {i : Nat} {x : α} (h : l[i]? = some x) : l.set i x = l := by
  refine List.ext_getElem? fun j => ?_
  by_cases e : i = j
  · subst e
    have := (List.getElem?_eq_some_iff.1 h).1
    rw [List.getElem?_set_self this, h]
  · rw [List.getElem?_set_ne e]
/-- A new entry at the end of a map. -/
theorem bmap_push {L : Loc} {cs ks ys : List SV} {e : ESz} {es : Array MapEntry} {key yw : Value} {ns : List Int} (hLb : L.b < w.heap.size) (q2 : cs.length = es.size * (e.kw + e.vw)) (q3 : e.kw ≠ 0)
    (q4 : ∀ (i : Nat) (en : MapEntry), es[i]? = some en → en.born = i ∧ VRel β (entK e cs i) en.key ∧ VRel β (entV e cs i) en.val) (q5 : ∀ i, i < es.size → ∃ ns : List Int, entK e cs i = ns.map (.int .i64))
    (hksl : ks.length = e.kw) (hysl : ys.length = e.vw) (hkr : VRel β ks key) (hval : VRel β ys yw) (hks : ks = ns.map (SV.int .i64)) (w' : World) (hw' : w'.heap = w.heap.setIfInBounds L.b (.map (es.push { key := key, val := yw, born := es.size }) (es.size + 1))) : BMap β w' L (cs ++ ks ++ ys) e := by
  have hsz : (cs ++ ks ++ ys).length = (es.size + 1) * (e.kw + e.vw) := by
    rw [List.length_append, List.length_append, q2, hksl, hysl, Nat.add_mul, Nat.one_mul]; omega
  refine ⟨es.push { key := key, val := yw, born := es.size }, by rw [hw']; simp [hLb], by simpa using hsz, q3, fun i en' hi => ?_, fun i hi => ?_⟩
  · rcases Nat.lt_or_ge i es.size with hlt | hge
    · rw [Array.getElem?_push, if_neg (by omega)] at hi
      have := ent_app (r := ks ++ ys) q2 hlt
      rw [← List.append_assoc] at this
      rw [this.1, this.2]
      exact q4 i en' hi
    · have : i = es.size := by
        have := (Array.getElem?_eq_some_iff.1 hi).1
        simp at this; omega
      subst this
      rw [Array.getElem?_push, if_pos rfl] at hi
      cases hi
      obtain ⟨l1, l2⟩ := ent_last q2 hksl hysl
      rw [l1, l2]
      exact ⟨rfl, hkr, hval⟩
  · rcases Nat.lt_or_ge i es.size with hlt | hge
    · have := ent_app (r := ks ++ ys) q2 hlt
      rw [← List.append_assoc] at this
      rw [this.1]
      exact q5 i hlt
    · have : i = es.size := by simp at hi; omega
      subst this
      rw [(ent_last q2 hksl hysl).1]
      exact ⟨ns, hks⟩
theorem s_mpE {z : ESz} {zero : List SV} {x k : AO} {o : Oper} {v : Option AV} {h' : Heap} (hok : okOp P (.mpE z zero x k) o.op = true) (hE : ERel β E a.tmps) (R : Rep β h w)
    (hs : step1 E h (.mpE z zero x k) = some (v, h')) : Out1 β h w ((execOp a.eval o).run P w) v h' := by
  cases hop : o.op <;> rw [hop] at hok <;> simp [okOp] at hok
  rename_i t x' k'
  obtain ⟨⟨⟨k1, k2⟩, k3⟩, k4⟩ := hok
  obtain ⟨kt, et, hu, hz1, hz2, hK⟩ := mpIs_some k3
  obtain ⟨zv, hzv, hzr⟩ := mpZero_some hu k4
  simp only [step1] at hs
  split at hs
  case h_2 => cases hs
  rename_i id hp
  split at hs
  case h_2 => cases hs
  rename_i cs e hg
  split at hs
  case isFalse => cases hs
  rename_i he
  subst he
  simp only [Option.bind_eq_some_iff] at hs
  obtain ⟨kv, hkv, ks, hks, ns, hns, hs⟩ := hs
  split at hs
  case isFalse => cases hs
  rename_i hnl
  simp only [Option.some.injEq] at hs
  have r1 := evS_rel k1 hE hp
  have r2 := ev_rel k2 hE hkv
  have hkey : a.eval k' = keyV ns := by
    have := mpOK_rel r2 hks
    rw [ints_len hns] at this
    exact this.key
  have hkr := mpOK_rel r2 hks
  have hksl : ks.length = e.kw := by rw [ints_len hns, List.length_map]; exact hnl.1
  generalize hpv : a.eval x' = pv at r1
  cases r1 with
  | mapv hL hn =>
    rename_i L
    obtain ⟨es, q1, q2, q3, q4, q5⟩ := map_blk R hg hL hn
    have hd := map_size (L := L) q2 q3
    obtain ⟨m1, m2⟩ := map_keys q2 q3 (fun i e he => (q4 i e he).2.1) q5
    have hck := hK.check w false ns hnl.1
    have hfk := hK.find w ns es.toList (keysI e cs) hnl.1 m1 m2
    have hgo := MapKept.run_getObj_map (P := P) q1
    have hset := fun o => MapKept.run_setObj_map (P := P) o q1
    have hLb : L.b < w.heap.size := (Array.getElem?_eq_some_iff.1 q1).1
    rw [hkey] at hkr
    rcases find_at (cs := cs) (z := e) hd ns with ⟨f1, f2⟩ | ⟨j, en, f1, f2, f3, f4⟩
    · rw [f2] at hfk
      rw [f1] at hs
      simp only [Prod.mk.injEq] at hs
      obtain ⟨rfl, rfl⟩ := hs
      rw [hd]
      obtain ⟨g1, g2⟩ := odd_set R hg hL hn.1 (.map (es.push { key := keyV ns, val := zv, born := es.size }) (es.size + 1)) (cs ++ ks ++ zero) fun w' hw' => .inl ⟨hz2, bmap_push hLb q2 q3 q4 q5 hksl hnl.2.1 hkr (hzr β) (ints_len hns) w' hw'⟩
      refine ⟨β, _, g1, g2, .tuple #[zv, .int .i64 (es.size : Nat)], ?_, .tup (.cons (hzr β).av.2 (.cons (.sc (.int _ _)) .nil))⟩
      simp [execOp, hop, hpv, hkey, Instr.mapEntry, run_und hu, hgo, hck, hfk, hzv, hset, Result.andThen]
      rfl
    · rw [f4] at hfk
      rw [f1] at hs
      simp only [Prod.mk.injEq] at hs
      obtain ⟨rfl, rfl⟩ := hs
      have hk3 : en.key = keyV ns := by
        have h1 := List.findIdx?_eq_some_iff_findIdx_eq.1 (show (keysI e cs).findIdx? (· == ns) = some j from f1)
        have h2 : (keysI e cs)[j]? = some ns := by
          have hjl : j < (keysI e cs).length := h1.1
          have h3 := List.findIdx_getElem (xs := keysI e cs) (p := (· == ns)) (w := by rw [h1.2]; exact hjl)
          simp only [h1.2] at h3
          rw [List.getElem?_eq_getElem hjl]
          simpa using h3
        have h3 := congrArg (fun l => l[j]?) m1
        simp only [List.getElem?_map, Array.getElem?_toList, f2, h2, Option.map_some, Option.some.injEq] at h3
        exact h3
      have hsame : es.modify j (fun e => { e with key := keyV ns }) = es := by
        refine Array.ext_getElem? fun i => ?_
        rw [Array.getElem?_modify]
        split
        · rename_i e'
          subst e'
          rw [f2, Option.map_some, ← hk3]
        · rfl
      obtain ⟨g1, g2⟩ := odd_set R hg hL hn.1 (.map es es.size) cs fun w' hw' => .inl ⟨hz2, es, by rw [hw']; simp [hLb], q2, q3, q4, q5⟩
      rw [set_self hg] at g1 g2
      have hb := (q4 j en f2).1
      have hv := (q4 j en f2).2.2.av
      refine ⟨β, _, g1, g2, .tuple #[en.val, .int .i64 (j : Nat)], ?_, .tup (.cons hv.2 (.cons (.sc (.int _ _)) .nil))⟩
      simp [execOp, hop, hpv, hkey, Instr.mapEntry, run_und hu, hgo, hck, hfk, hset, f2, hk3, hK.stays _ ns hnl.1, hsame, hb, Result.andThen]
      rfl
theorem s_mpS {z : ESz} {x s y : AO} {o : Oper} {v : Option AV} {h' : Heap} (hok : okOp P (.mpS z x s y) o.op = true) (hE : ERel β E a.tmps) (R : Rep β h w)
    (hs : step1 E h (.mpS z x s y) = some (v, h')) : Out1 β h w ((execOp a.eval o).run P w) v h' := by
  cases hop : o.op <;> rw [hop] at hok <;> simp [okOp] at hok
  rename_i t x' s' y'
  obtain ⟨⟨k1, k2⟩, k3⟩ := hok
  simp only [step1] at hs
  split at hs
  case h_2 => cases hs
  rename_i id j hp hq
  split at hs
  case h_2 => cases hs
  rename_i cs e hg
  split at hs
  case isFalse => cases hs
  rename_i he
  obtain ⟨rfl, hj0, hjl⟩ := he
  simp only [Option.bind_eq_some_iff] at hs
  obtain ⟨yv, hyv, ys, hys, hs⟩ := hs
  split at hs
  case isFalse => cases hs
  rename_i hnl
  simp only [Option.some.injEq, Prod.mk.injEq] at hs
  obtain ⟨rfl, rfl⟩ := hs
  have r1 := evS_rel k1 hE hp
  have r2 := evS_rel k2 hE hq
  have r3 := ev_rel k3 hE hyv
  have hval := mpOK_rel r3 hys
  generalize hpv : a.eval x' = pv at r1
  generalize hsv : a.eval s' = sv at r2
  generalize hyv' : a.eval y' = yw at r3 hval
  cases r2
  cases r1 with
  | mapv hL hn =>
    rename_i L
    obtain ⟨es, q1, q2, q3, q4, q5⟩ := map_blk R hg hL hn
    have hd := map_size (L := L) q2 q3
    rw [hd] at hjl
    have hgo := MapKept.run_getObj_map (P := P) q1
    have hset := fun o => MapKept.run_setObj_map (P := P) o q1
    have hLb : L.b < w.heap.size := (Array.getElem?_eq_some_iff.1 q1).1
    obtain ⟨n, rfl⟩ : ∃ n : Nat, j = (n : Int) := ⟨j.toNat, by omega⟩
    rw [Int.toNat_natCast] at hjl ⊢
    have f2 : es[n]? = some es[n] := Array.getElem?_eq_getElem hjl
    have hfind : es.findIdx? (fun e => ((e.born : Nat) : Int) == (n : Int)) = some n := by
      have ha : es.findIdx? (fun e => ((e.born : Nat) : Int) == (n : Int)) = es.toList.findIdx? (fun e => ((e.born : Nat) : Int) == (n : Int)) := by
        cases es
        simp
      rw [ha, List.findIdx?_eq_some_iff_getElem]
      refine ⟨by simpa using hjl, by simp [(q4 _ _ f2).1], fun i hi => ?_⟩
      have hil : i < es.size := by omega
      have := (q4 i es[i] (Array.getElem?_eq_getElem hil)).1
      simp [this]; omega
    have hB : ∀ w' : World, w'.heap = w.heap.setIfInBounds L.b (.map (es.modify n fun e => { e with val := yw }) es.size) → BMap β w' L (splice cs (n * (e.kw + e.vw) + e.kw) ys) e := fun w' hw' => by
      refine ⟨es.modify n fun e => { e with val := yw }, by rw [hw']; simp [hLb], ?_, q3, fun i en' hi => ?_, fun i hi => ?_⟩
      · have h2 : (n + 1) * (e.kw + e.vw) ≤ es.size * (e.kw + e.vw) := Nat.mul_le_mul_right _ hjl
        have h3 : (n + 1) * (e.kw + e.vw) = n * (e.kw + e.vw) + (e.kw + e.vw) := by rw [Nat.add_mul, Nat.one_mul]
        rw [splice_len _ _ _ (by rw [q2, hnl]; omega)]; simpa using q2
      · rw [Array.getElem?_modify] at hi
        have hil : i < es.size := by
          split at hi
          · rename_i e'; subst e'; exact hjl
          · exact (Array.getElem?_eq_some_iff.1 hi).1
        obtain ⟨l1, l2⟩ := ent_set (cs := cs) (vs := ys) q2 hnl hil hjl
        rw [l1, l2]
        split at hi
        · rename_i e'
          subst e'
          rw [f2] at hi
          simp at hi
          subst hi
          rw [if_pos rfl]
          exact ⟨(q4 _ _ f2).1, (q4 _ _ f2).2.1, hval⟩
        · rename_i e'
          rw [if_neg (Ne.symm e')]
          exact q4 i en' hi
      · have hil : i < es.size := by simpa using hi
        rw [(ent_set (cs := cs) (vs := ys) q2 hnl hil hjl).1]
        exact q5 i hil
    obtain ⟨g1, g2⟩ := odd_set R hg hL hn.1 (.map (es.modify n fun e => { e with val := yw }) es.size) (splice cs (n * (e.kw + e.vw) + e.kw) ys) fun w' hw' => .inl ⟨by rw [← (show L.esz = e from R.sz id _ L hg hL)]; exact hn.2, hB w' hw'⟩
    refine ⟨β, _, g1, g2, ?_⟩
    simp [execOp, hop, hpv, hsv, hyv', Instr.entryStore, asInt, asIntOf, hgo, hfind, hset, Result.andThen]
theorem s_mpR {x : AO} {o : Oper} {v : Option AV} {h' : Heap} (hok : okOp P (.mpR x) o.op = true) (hE : ERel β E a.tmps) (R : Rep β h w) (hf : fresh β h h')
    (hs : step1 E h (.mpR x) = some (v, h')) : Out1 β h w ((execOp a.eval o).run P w) v h' := by
  cases hop : o.op <;> rw [hop] at hok <;> simp [okOp] at hok
  rename_i t x'
  obtain ⟨k1, k2⟩ := hok
  obtain ⟨kt, et, hu⟩ : ∃ kt et, P.underlying t = some (.map kt et) := by
    unfold mapIs at k2
    split at k2
    · exact ⟨_, _, by assumption⟩
    · cases k2
  simp only [step1] at hs
  split at hs
  case h_2 => cases hs
  rename_i id hp
  split at hs
  case h_2 => cases hs
  rename_i cs z hg
  simp only [Option.some.injEq, Prod.mk.injEq] at hs
  obtain ⟨rfl, rfl⟩ := hs
  have r1 := evS_rel k1 hE hp
  generalize hpv : a.eval x' = pv at r1
  cases r1 with
  | mapv hL hn =>
    rename_i L
    obtain ⟨es, q1, q2, q3, q4, q5⟩ := map_blk R hg hL hn
    have hd := map_size (L := L) q2 q3
    rw [hd] at hf ⊢
    obtain ⟨g1, g2⟩ := odd_new R hf.one (.mapIter (some L.b) es.size #[] es.size) [.mapv id, .int .i64 (es.size : Nat)] ⟨2000000, none⟩ (by decide) (fun β' w' hb hw => .inr ⟨Nat.le_refl _, id, L, es.size, es.size, [], rfl, hn, hb _ _ hL, by rw [hw]; exact Go.heap_alloc_new w _, rfl⟩)
    refine ⟨_, _, g1, g2, .pointer (some ⟨w.heap.size, 0, none⟩), ?_, .sc ?_⟩
    · simp [execOp, hop, hpv, Instr.range, run_und hu, MapKept.run_getObj_map (P := P) q1, Result.andThen]
    · exact SRel.itv (upd_same β h.length (⟨w.heap.size, 0, 0, ⟨2000000, none⟩⟩ : Loc)) (Nat.le_refl _)
theorem s_mpN {x : AO} {o : Oper} {v : Option AV} {h' : Heap} (hok : okOp P (.mpN x) o.op = true) (hE : ERel β E a.tmps) (R : Rep β h w)
    (hs : step1 E h (.mpN x) = some (v, h')) : Out1 β h w ((execOp a.eval o).run P w) v h' := by
  cases hop : o.op <;> rw [hop] at hok
  case call c =>
    simp only [okOp] at hok
    split at hok
    · rename_i x' t hc ha ht
      simp only [Bool.and_eq_true] at hok
      obtain ⟨k1, k2⟩ := hok
      obtain ⟨kt, et, hu⟩ : ∃ kt et, P.underlying t = some (.map kt et) := by
        unfold mapIs at k2
        split at k2
        · exact ⟨_, _, by assumption⟩
        · cases k2
      have ha' : c.args = #[x'] := by rw [← ha]
      have ht' : c.argTypes = #[t] := by rw [← ht]
      simp only [step1] at hs
      split at hs
      case h_2 => cases hs
      rename_i id hp
      split at hs
      case h_2 => cases hs
      rename_i cs rw' z hg
      simp only [Option.some.injEq, Prod.mk.injEq] at hs
      obtain ⟨rfl, rfl⟩ := hs
      have r1 := evS_rel k1 hE hp
      generalize hpv : a.eval x' = pv at r1
      cases r1 with
      | mapv hL hn =>
        rename_i L
        obtain ⟨es, q1, q2, q3, q4, q5⟩ := map_blk R hg hL hn
        have hd := map_size (L := L) q2 q3
        rw [hd]
        refine out_pure R (c := .int .i64 (es.size : Nat)) ?_ (.sc (.int _ _))
        simp [execOp, hop, hc, ha', ht', hpv, resolve, invoke, builtin, Builtin.len_, run_und hu, MapKept.run_getObj_map (P := P) q1, Result.andThen]
        rfl
    · cases hok
  all_goals simp [okOp] at hok
theorem s_mpT {x : AO} {o : Oper} {v : Option AV} {h' : Heap} (hok : okOp P (.mpT x) o.op = true) (hE : ERel β E a.tmps) (R : Rep β h w)
    (hs : step1 E h (.mpT x) = some (v, h')) : Out1 β h w ((execOp a.eval o).run P w) v h' := by
  cases hop : o.op <;> rw [hop] at hok <;> simp [okOp] at hok
  rename_i x'
  simp only [step1] at hs
  split at hs
  case h_2 => cases hs
  rename_i it hp
  split at hs
  case h_2 => cases hs
  rename_i m n seen _ _ hg
  split at hs
  case h_2 => cases hs
  rename_i i hlast
  split at hs
  case h_2 => cases hs
  rename_i cs _ z hgm
  split at hs
  case isFalse => cases hs
  rename_i hc
  simp only [Option.some.injEq, Prod.mk.injEq] at hs
  obtain ⟨rfl, rfl⟩ := hs
  have r1 := evS_rel hok hE hp
  generalize hpv : a.eval x' = pv at r1
  cases r1 with
  | itv hL hn =>
    rename_i L
    obtain ⟨m', M, n', last, sn, e1, e2, e3, e4, e5⟩ := iter_blk R hg hL hn
    simp only [List.cons.injEq, SV.mapv.injEq, SV.int.injEq] at e1
    obtain ⟨rfl, ⟨-, rfl⟩, rfl⟩ := e1
    subst e5
    · obtain ⟨es, q1, q2, q3, q4, q5⟩ := map_blk R hgm e3 e2
      have hd := map_size (L := M) q2 q3
      rw [hd] at hc
      obtain ⟨c1, c2, c3⟩ := hc
      have hne : last = es.size := by omega
      subst hne
      have hsn : sn.getLast? = some i.toNat := by
        unfold seenV at hlast
        rw [List.getLast?_map] at hlast
        cases hx : sn.getLast? with
        | none => rw [hx] at hlast; cases hlast
        | some y =>
          rw [hx] at hlast
          simp only [Option.map_some, Option.some.injEq, SV.int.injEq, true_and] at hlast
          rw [← hlast]; simp
      have hback : sn.toArray.back? = some i.toNat := by rw [← hsn]; simp [List.back?_toArray]
      obtain ⟨en, hen⟩ : ∃ en, es[i.toNat]? = some en := ⟨_, Array.getElem?_eq_getElem c3⟩
      have hfind : es.find? (fun e => e.born == i.toNat) = some en := by
        rw [← Array.find?_toList, List.find?_eq_some_iff_getElem]
        refine ⟨by simp [(q4 _ _ hen).1], i.toNat, by simpa using c3, ?_, fun j hj => ?_⟩
        · have := (Array.getElem?_eq_some_iff.1 hen).2
          simpa using this
        · have hjl : j < es.size := by omega
          have := (q4 j es[j] (Array.getElem?_eq_getElem hjl)).1
          simp [this]; omega
      have hgi : (getObj L.b).run P w = .ok (.mapIter (some M.b) es.size sn.toArray es.size) w := by simp [getObj, Sem.run, e4]
      have hv := (q4 _ _ hen).2
      refine out_pure R (c := .tuple #[en.key, en.val]) ?_ (.tup (.cons hv.1.av.2 (.cons hv.2.av.2 .nil)))
      simp [execOp, hop, hpv, Instr.entry, hgi, hback, MapKept.run_getObj_map (P := P) q1, hfind, Result.andThen]
end Go.Ab


/- Code: what is reckoned here is what the model does. -/
namespace Go.Ab
variable [Base]
set_option linter.unusedSectionVars false
set_option linter.unusedVariables false
variable {P : Program} {β : Bt} {E : Env} {h : Heap} {w : World} {a : Act}

theorem step1_sound {k : AK} {o : Oper} {v : Option AV} {h' : Heap} (hok : okOp P k o.op = true) (hE : ERel β E a.tmps) (R : Rep β h w) (hf : fresh β h h')
    (hs : step1 E h k = some (v, h')) : Out1 β h w ((execOp a.eval o).run P w) v h' := by
  cases k with
  | mv x => exact s_mv hok hE R hs
  | pick c x y => exact s_pick hok hE R hs
  | bin op x y => exact s_bin hok hE R hs
  | beq neg x y => exact s_beq hok hE R hs
  | isnil kd neg x => exact s_isnil hok hE R hs
  | un op x => exact s_un hok hE R hs
  | conv k x => exact s_conv hok hE R hs
  | len str x => exact s_len hok hE R hs
  | mm mx x ys => exact s_mm hok hE R hs
  | idxA esz x i => exact s_idxA hok hE R hs
  | idxP n esz x i => exact s_idxP hok hE R hs
  | idxS x i => exact s_idxS hok hE R hs
  | idxG n esz agg x i => exact s_idxG hok hE R hs
  | fldA off x => exact s_fldA hok hE R hs
  | fld off size agg x => exact s_fld hok hE R hs
  | ld n agg x => exact s_ld hok hE R hs
  | st n y x => exact s_st hok hE R hs
  | new zero => exact s_new hok hE R hf hs
  | box x => exact s_box hok hE R hf hs
  | bld zero parts => exact s_bld hok hE R hs
  | bsl esz zero len parts => exact s_bsl hok hE R hf hs
  | mk esz bytes zero l c => exact s_mk hok hE R hf hs
  | sl esz x lo hi => exact s_sl hok hE R hs
  | slS x lo hi => exact s_slS hok hE R hs
  | app esz bytes zero x y => exact s_app hok hE R hf hs
  | newT t zero => exact s_newT hok hE R hf hs
  | aeq neg n x y => exact s_aeq hok hE R hs
  | peq neg x y => exact s_peq hok hE R hs
  | sl1 x lo hi => exact s_sl1 hok hE R hs
  | usd x => exact s_usd hok hE R hs
  | ustr t x n => exact s_ustr hok hE R hs
  | cvb x => exact s_cvb hok hE R hf hs
  | cbs x => exact s_cbs hok hE R hs
  | veq neg x y => exact s_veq hok hE R hs
  | seq2 neg x y => exact s_seq2 hok hE R hs
  | car sb x y c => exact s_car hok hE R hs
  | cpy esz x y => exact s_cpy hok hE R hs
  | mpM z => exact s_mpM hok hE R hf hs
  | mpL z zero ok x k => exact s_mpL hok hE R hs
  | mpU z x k v => exact s_mpU hok hE R hs
  | mpR x => exact s_mpR hok hE R hf hs
  | mpT x => exact s_mpT hok hE R hs
  | mpN x => exact s_mpN hok hE R hs
  | mpE z zero x k => exact s_mpE hok hE R hs
  | mpS z x s v => exact s_mpS hok hE R hs
  | mpX x => simp [step1] at hs
  | bad => simp [step1] at hs
  | call f args => simp [step1] at hs
  | callv x args => simp [step1] at hs
  | ext x i => exact s_ext hok hE R hs
  | mkf f caps => exact s_mkf hok hE R hs
  | nilc x => exact s_nilc hok hE R hs

theorem writeN_len {h h' : Heap} {id off : Nat} {vs : List SV} (hw : writeN h id off vs = some h') : h'.length = h.length := by
  unfold writeN at hw
  split at hw
  · split at hw
    · simp at hw; subst hw; simp
    · simp at hw
  · simp at hw

theorem appS_len {h h' : Heap} {esz : ESz} {bytes m : Nat} {s s' : SV} {vs : List SV} (hs : appS h esz bytes s m vs = some (s', h')) : h.length ≤ h'.length := by
  unfold appS at hs
  split at hs
  · split at hs
    · simp at hs; rw [← hs.2]; exact Nat.le_refl _
    · split at hs
      · simp at hs; rw [← hs.2]; simp
      · simp at hs
  · split at hs
    · simp at hs; rw [← hs.2]; exact Nat.le_refl _
    · split at hs
      · split at hs
        · split at hs
          · split at hs
            · split at hs
              · split at hs
                · simp at hs; rw [← hs.2]; simp
                · simp only [Option.map_eq_some_iff, Prod.mk.injEq] at hs
                  obtain ⟨h1, hw, _, rfl⟩ := hs
                  exact Nat.le_of_eq (writeN_len hw).symm
              · split at hs
                · simp at hs; rw [← hs.2]; simp
                · simp at hs
            · simp at hs
          · simp at hs
        · simp at hs
      · simp at hs
  · simp at hs

theorem step1_len {k : AK} {v : Option AV} {h' : Heap} (hs : step1 E h k = some (v, h')) : h.length ≤ h'.length := by
  cases k <;> simp only [step1, Option.bind_eq_some_iff, Option.map_eq_some_iff, Prod.mk.injEq] at hs
  case st n y x =>
    split at hs
    · simp only [Option.bind_eq_some_iff] at hs
      obtain ⟨u, hu, vs, hvs, hs⟩ := hs
      split at hs
      · simp only [Option.map_eq_some_iff, Prod.mk.injEq] at hs
        obtain ⟨h1, hw, _, rfl⟩ := hs
        exact Nat.le_of_eq (writeN_len hw).symm
      · simp at hs
    · simp at hs
  case app esz bytes zero x y =>
    obtain ⟨s, hps, t', hpt, p, hsrc, r, happ, rfl, rfl⟩ := hs
    exact appS_len happ
  case new zero => simp at hs; rw [← hs.2]; simp
  case newT t zero => simp at hs; rw [← hs.2]; simp
  case mpX x => simp at hs
  case bad => simp at hs
  case mpM z =>
    split at hs
    · simp only [Option.some.injEq, Prod.mk.injEq] at hs; rw [← hs.2]; simp
    · simp at hs
  case mpL z zero ok x k =>
    split at hs
    · split at hs
      · split at hs
        · simp only [Option.bind_eq_some_iff] at hs
          obtain ⟨_, _, _, _, _, _, hs⟩ := hs
          split at hs
          · simp only [Option.some.injEq, Prod.mk.injEq] at hs; rw [← hs.2]; exact Nat.le_refl _
          · simp at hs
        · simp at hs
      · simp at hs
    · simp at hs
  case mpU z x k y =>
    split at hs
    · split at hs
      · split at hs
        · simp only [Option.bind_eq_some_iff] at hs
          obtain ⟨_, _, _, _, _, _, _, _, _, _, hs⟩ := hs
          split at hs
          · simp only [Option.some.injEq, Prod.mk.injEq] at hs; rw [← hs.2, List.length_set]; exact Nat.le_refl _
          · simp at hs
        · simp at hs
      · simp at hs
    · simp at hs
  case mpR x =>
    split at hs
    · split at hs
      · simp only [Option.some.injEq, Prod.mk.injEq] at hs; rw [← hs.2]; simp
      · simp at hs
    · simp at hs
  case mpT x =>
    split at hs
    · split at hs
      · split at hs
        · split at hs
          · split at hs
            · simp only [Option.some.injEq, Prod.mk.injEq] at hs; rw [← hs.2]; exact Nat.le_refl _
            · simp at hs
          · simp at hs
        · simp at hs
      · simp at hs
    · simp at hs
  case mpE z zero x k =>
    split at hs
    · split at hs
      · split at hs
        · simp only [Option.bind_eq_some_iff] at hs
          obtain ⟨_, _, _, _, _, _, hs⟩ := hs
          split at hs
          · simp only [Option.some.injEq] at hs
            split at hs
            · simp only [Prod.mk.injEq] at hs; rw [← hs.2]; exact Nat.le_refl _
            · simp only [Prod.mk.injEq] at hs; rw [← hs.2, List.length_set]; exact Nat.le_refl _
          · simp at hs
        · simp at hs
      · simp at hs
    · simp at hs
  case mpS z x s y =>
    split at hs
    · split at hs
      · split at hs
        · simp only [Option.bind_eq_some_iff] at hs
          obtain ⟨_, _, _, _, hs⟩ := hs
          split at hs
          · simp only [Option.some.injEq, Prod.mk.injEq] at hs; rw [← hs.2, List.length_set]; exact Nat.le_refl _
          · simp at hs
        · simp at hs
      · simp at hs
    · simp at hs
  case mpN x =>
    split at hs
    · split at hs
      · simp only [Option.some.injEq, Prod.mk.injEq] at hs; rw [← hs.2]; exact Nat.le_refl _
      · simp at hs
    · simp at hs
  case cvb x =>
    split at hs
    · simp only [Option.some.injEq, Prod.mk.injEq] at hs; rw [← hs.2]; simp
    · simp at hs
  case cpy esz x y =>
    split at hs
    · split at hs
      · simp only [Option.bind_eq_some_iff, Option.map_eq_some_iff, Prod.mk.injEq] at hs
        obtain ⟨_, _, h1, hw, _, rfl⟩ := hs
        exact Nat.le_of_eq (writeN_len hw).symm
      · simp at hs
    · simp at hs
  case cbs x =>
    split at hs
    · split at hs
      · simp only [Option.bind_eq_some_iff, Option.map_eq_some_iff, Prod.mk.injEq] at hs
        obtain ⟨_, _, _, _, _, rfl⟩ := hs; exact Nat.le_refl _
      · simp at hs
    · simp at hs
  case usd x =>
    split at hs
    · split at hs
      · simp only [Option.some.injEq, Prod.mk.injEq] at hs; rw [hs.2]; exact Nat.le_refl _
      · simp at hs
    · simp only [Option.some.injEq, Prod.mk.injEq] at hs; rw [hs.2]; exact Nat.le_refl _
    · simp at hs
  case ustr t x n =>
    split at hs
    · split at hs
      · split at hs
        · simp only [Option.bind_eq_some_iff, Option.map_eq_some_iff, Prod.mk.injEq] at hs
          obtain ⟨_, _, _, _, _, rfl⟩ := hs; simp
        · simp at hs
      · simp at hs
    · split at hs
      · simp only [Option.some.injEq, Prod.mk.injEq] at hs; rw [hs.2]; exact Nat.le_refl _
      · simp at hs
    · simp at hs
  case aeq neg n x y =>
    split at hs
    · split at hs
      · simp only [Option.map_eq_some_iff, Prod.mk.injEq] at hs
        obtain ⟨_, _, _, rfl⟩ := hs; exact Nat.le_refl _
      · simp at hs
    · simp at hs
  case box x =>
    obtain ⟨u, hu, cs, hc, rfl, rfl⟩ := hs; simp
  case bsl esz zero len parts =>
    split at hs
    · simp only [Option.bind_eq_some_iff, Option.map_eq_some_iff, Prod.mk.injEq] at hs
      obtain ⟨ps, hps, cs, hfill, rfl, rfl⟩ := hs; simp
    · simp at hs
  case mk esz bytes zero l c =>
    split at hs
    · split at hs
      · simp at hs; rw [← hs.2]; simp
      · simp at hs
    · simp at hs
  case call => simp at hs
  case callv => simp at hs
  case pick c x y =>
    split at hs
    · split at hs
      · simp only [Option.map_eq_some_iff, Prod.mk.injEq] at hs
        obtain ⟨_, _, _, rfl⟩ := hs; exact Nat.le_refl _
      · simp only [Option.map_eq_some_iff, Prod.mk.injEq] at hs
        obtain ⟨_, _, _, rfl⟩ := hs; exact Nat.le_refl _
    · simp at hs
  case idxS x i =>
    split at hs
    · split at hs
      · simp only [Option.map_eq_some_iff, Prod.mk.injEq] at hs
        obtain ⟨_, _, _, rfl⟩ := hs; exact Nat.le_refl _
      · simp at hs
    · simp at hs
  case idxG n esz agg x i =>
    split at hs
    · split at hs
      · simp only [Option.bind_eq_some_iff, Option.map_eq_some_iff, Prod.mk.injEq] at hs
        obtain ⟨_, _, _, _, _, rfl⟩ := hs; exact Nat.le_refl _
      · simp at hs
    · simp at hs
  case fld off size agg x =>
    split at hs
    · simp only [Option.bind_eq_some_iff, Option.map_eq_some_iff, Prod.mk.injEq] at hs
      obtain ⟨_, _, _, _, _, rfl⟩ := hs; exact Nat.le_refl _
    · simp at hs
  case ld n agg x =>
    split at hs
    · simp only [Option.bind_eq_some_iff, Option.map_eq_some_iff, Prod.mk.injEq] at hs
      obtain ⟨_, _, _, _, _, rfl⟩ := hs; exact Nat.le_refl _
    · simp at hs
  case fldA off x =>
    split at hs
    · simp only [Option.some.injEq, Prod.mk.injEq] at hs; rw [hs.2]; exact Nat.le_refl _
    · simp at hs
  case nilc x =>
    split at hs
    · simp only [Option.some.injEq, Prod.mk.injEq] at hs; rw [hs.2]; exact Nat.le_refl _
    · simp only [Option.some.injEq, Prod.mk.injEq] at hs; rw [hs.2]; exact Nat.le_refl _
    · simp at hs
  case slS x lo hi =>
    split at hs
    · simp only [Option.bind_eq_some_iff] at hs
      obtain ⟨l, hl, u, hu', hs⟩ := hs
      split at hs
      · simp only [Option.some.injEq, Prod.mk.injEq] at hs; rw [hs.2]; exact Nat.le_refl _
      · simp at hs
    · simp at hs
  all_goals apply Nat.le_of_eq
  all_goals first
    | (obtain ⟨u, _, _, rfl⟩ := hs; rfl)
    | (obtain ⟨u, _, v, _, _, rfl⟩ := hs; rfl)
    | (obtain ⟨u, _, v, _, x, _, _, rfl⟩ := hs; rfl)
    | (obtain ⟨u, _, v, _, x, _, y, _, _, rfl⟩ := hs; rfl)
    | (obtain ⟨u, _, v, _, x, _, y, _, z, _, _, rfl⟩ := hs; rfl)
    | (split at hs <;> first | (simp at hs; done) | (simp at hs; rw [hs.2]; done) | (simp at hs; obtain ⟨_, _, _, rfl⟩ := hs; rfl) | skip)


/-- Calls. -/
structure CallOK (P : Program) (cf : CF) : Prop where
  len : ∀ f args h v h', cf f args h = some (v, h') → h.length ≤ h'.length
  fn : ∀ f args h r, cf f args h = some r → fnIs P f = true
  run : ∀ f args h v h', cf f args h = some (v, h') → ∀ β w vs, F2 (ARel β) args vs → Rep β h w → fresh β h h' →
    Calls P f vs.toArray w fun e w' => ∃ β' c, e = .returned c ∧ ARel β' v c ∧ Stp β h w β' h' w' ∧ Rep β' h' w'

theorem callFunc_run {f : FuncId} (hf : fnIs P f = true) (args : Array Value) (w : World) : (callFunc f args).run P w = .ok (.enter f args) w := by
  unfold fnIs at hf
  split at hf
  · rename_i fn hfn
    simp at hf
    obtain ⟨h1, h2⟩ := hf
    simp [callFunc, hfn, h2]
    intro hb
    simp [hb] at h1
  · simp at hf

theorem opRun_len {cf : CF} (CO : CallOK P cf) {k : AK} {v : Option AV} {h' : Heap} (hs : opRun cf E h k = some (v, h')) : h.length ≤ h'.length := by
  unfold opRun at hs
  split at hs
  · simp only [Option.bind_eq_some_iff, Option.map_eq_some_iff, Prod.mk.injEq] at hs
    obtain ⟨vs, _, ⟨r, h1⟩, hr, _, rfl⟩ := hs
    exact CO.len _ _ _ _ _ hr
  · split at hs
    · simp only [Option.bind_eq_some_iff, Option.map_eq_some_iff, Prod.mk.injEq] at hs
      obtain ⟨vs, _, ⟨r, h1⟩, hr, _, rfl⟩ := hs
      exact CO.len _ _ _ _ _ hr
    · simp at hs
  · exact step1_len hs

theorem caps_av {caps : List (Nat × Nat)} {vs : List Value} (h : F2 (CapR β) caps vs) : F2 (ARel β) (caps.map fun p => AV.sc (.ptr p.1 p.2)) vs := by
  induction h with
  | nil => exact .nil
  | cons a _ ih =>
    obtain ⟨L, h1, hn, rfl⟩ := a
    exact .cons (.sc (.ptr h1 hn)) ih

/-- One operation, whatever follows. -/
theorem op_sound {cf : CF} (CO : CallOK P cf) {k : AK} {o : Oper} {v : Option AV} {h' : Heap} (hok : okOp P k o.op = true) (hE : ERel β E a.tmps) (R : Rep β h w) (hf : fresh β h h')
    (hs : opRun cf E h k = some (v, h')) {K : Act → World → Prop} {Q : Exit → Act → World → Prop}
    (hK : ∀ β' w' c, Stp β h w β' h' w' → Rep β' h' w' → (∀ u, v = some u → ARel β' u c) → K (a.put o.dst c) w') : o.wp P a w K Q := by
  have call : ∀ (f : FuncId) (args : List AV) (vs : List Value), (execOp a.eval o).run P w = .ok (.enter f vs.toArray) w → F2 (ARel β) args vs →
      (∃ r, cf f args h = some (r, h') ∧ v = some r) → o.wp P a w K Q := by
    intro f args vs hrun hr ⟨r, hc, hv⟩
    unfold Oper.wp
    rw [hrun, Oper.upon_enter]
    refine (CO.run f args h r h' hc β w vs hr R hf).mono ?_
    rintro e w' ⟨β', c, rfl, h1, h2, h3⟩
    exact hK β' w' c h2 h3 (fun u hu => by rw [hv] at hu; simp at hu; subst hu; exact h1)
  cases hk : k
  case call f args =>
    subst hk
    simp only [opRun, Option.bind_eq_some_iff, Option.map_eq_some_iff, Prod.mk.injEq] at hs
    obtain ⟨vs, hvs, ⟨r, h1⟩, hr, rfl, rfl⟩ := hs
    cases hop : o.op <;> rw [hop] at hok <;> simp only [okOp, Bool.false_eq_true] at hok
    rename_i c
    obtain ⟨callee, args', argTypes⟩ := c
    split at hok
    · rename_i g hc
      simp only at hc
      subst hc
      simp at hok
      obtain ⟨⟨rfl, k2⟩, k3⟩ := hok
      have hr' := evs_rel hE k2 hvs
      refine call f vs _ ?_ hr' ⟨r, hr, rfl⟩
      simp [execOp, hop, resolve, Act.eval, Deferred.ofValue, invoke, callFunc_run k3]
      have : (args'.map a.eval) = (List.map a.eval args'.toList).toArray := by
        apply Array.ext'; simp
      exact this
    · simp at hok
  case callv x args =>
    subst hk
    simp only [opRun] at hs
    split at hs
    · rename_i f caps hx
      simp only [Option.bind_eq_some_iff, Option.map_eq_some_iff, Prod.mk.injEq] at hs
      obtain ⟨vs, hvs, ⟨r, h1⟩, hr, rfl, rfl⟩ := hs
      cases hop : o.op <;> rw [hop] at hok <;> simp only [okOp, Bool.false_eq_true] at hok
      rename_i c
      obtain ⟨callee, args', argTypes⟩ := c
      split at hok
      · rename_i x' hc
        simp only at hc
        subst hc
        simp at hok
        obtain ⟨k1, k2⟩ := hok
        have hr' := evs_rel hE k2 hvs
        have r1 := evS_rel k1 hE hx
        generalize hpv : a.eval x' = pv at r1
        cases r1 with
        | fn hcaps =>
          rename_i cvs
          have hfn := CO.fn _ _ _ _ hr
          refine call f _ (List.map a.eval args'.toList ++ cvs) ?_ (hr'.append (caps_av hcaps)) ⟨r, hr, rfl⟩
          simp [execOp, hop, resolve, hpv, Deferred.ofValue, invoke, callFunc_run hfn]
      · simp at hok
    · simp at hs
  all_goals
    have hs' : step1 E h k = some (v, h') := by rw [hk] at hs ⊢; exact hs
    obtain ⟨β', w', h1, h2, h3⟩ := step1_sound hok hE R hf hs'
    unfold Oper.wp
    cases v with
    | some u =>
      obtain ⟨c, h4, h5⟩ := h3
      rw [h4, Oper.upon_value]
      exact hK β' w' c h1 h2 (fun u' hu => by simp at hu; subst hu; exact h5)
    | none =>
      rw [h3, Oper.upon_skip]
      exact hK β' w' undef h1 h2 (fun u' hu => by simp at hu)

end Go.Ab

