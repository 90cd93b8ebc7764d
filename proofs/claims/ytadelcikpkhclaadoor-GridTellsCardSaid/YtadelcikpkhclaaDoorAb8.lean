/- Each operation does in the model what it does here: slices made, cut, appended to. -/
import Derived.Test.YtadelcikpkhclaaDoorAb7
namespace Go.Ab
set_option linter.unusedVariables false
variable {P : Program} {β : Bt} {E : Env} {h : Heap} {w : World} {a : Act}

theorem rep_length (zero : List SV) : ∀ n, (rep zero n).length = n * zero.length
  | 0 => by simp [rep]
  | n + 1 => by simp [rep, rep_length zero n, Nat.add_mul]; omega

theorem rep_get (zero : List SV) : ∀ (n i : Nat), i < n * zero.length → (rep zero n)[i]? = zero[i % zero.length]?
  | 0, i, h => by simp at h
  | n + 1, i, h => by
    simp only [rep]
    by_cases hi : i < zero.length
    · rw [List.getElem?_append_left hi, Nat.mod_eq_of_lt hi]
    · rw [List.getElem?_append_right (by omega), rep_get zero n (i - zero.length) (by rw [Nat.add_mul] at h; omega)]
      rw [← Nat.mod_eq_sub_mod (by omega)]

theorem made_rel {zero : List SV} {z : Array Value} (hz : F2 (SRel β) zero z.toList) (n : Nat) : F2 (SRel β) (rep zero n) (madeCells z (n * zero.length)).toList := by
  have hl := hz.length
  refine F2.of_get (by simp [rep_length, madeCells]) fun i x y hx hy => ?_
  have hi : i < n * zero.length := by
    have := (List.getElem?_eq_some_iff.1 hx).1
    rwa [rep_length] at this
  rw [rep_get zero n i hi] at hx
  have hpos : 0 < zero.length := by
    rcases Nat.eq_zero_or_pos zero.length with h0 | h0
    · rw [h0] at hi; omega
    · exact h0
  obtain ⟨c, q1, q2⟩ := hz.get hx
  simp [madeCells] at hy
  obtain ⟨k, hk, hy⟩ := hy
  rw [List.getElem?_range hi] at hk
  simp at hk; subst hk
  have hsz : z.size = zero.length := by simpa using hl.symm
  rw [hsz] at hy
  have : z[i % zero.length]! = c := by
    have hq : z[i % zero.length]? = some c := by simpa using q1
    simp [getElem!_def, hq]
  rw [← hy, this]; exact q2

theorem slc_new {L : Loc} {n c : Nat} {cap : Option Nat} (h1 : L.b = w.heap.size) (h2 : L.base = 0) (hl : n ≤ c) (hc : ∀ k, cap = some k → c = k) (hp : 1 ≤ L.esz.n) (hb : c * L.esz.n ≤ L.sz) :
    SRel (upd β h.length L) (.slc h.length 0 n cap) (.slice (some ⟨w.heap.size, 0, none⟩) n c) :=
  SRel.slc (off := 0) (len := n) (cap := cap) (c := c) (upd_same β h.length L) hc hl (fun _ => by rw [h1, h2]) (fun _ => ⟨hp, by omega⟩)

theorem s_bsl {esz : ESz} {zero : List SV} {len : Nat} {parts : List (Nat × AO)} {o : Oper} {v : Option AV} {h' : Heap} (hok : okOp P (.bsl esz zero len parts) o.op = true) (hE : ERel β E a.tmps) (R : Rep β h w) (hf : fresh β h h')
    (hs : step1 E h (.bsl esz zero len parts) = some (v, h')) : Out1 β h w ((execOp a.eval o).run P w) v h' := by
  cases hop : o.op <;> rw [hop] at hok <;> simp only [okOp, Bool.and_eq_true, decide_eq_true_eq, Bool.false_eq_true] at hok
  rename_i t len' parts'
  obtain ⟨⟨⟨rfl, k2⟩, k0⟩, k3⟩ := hok
  obtain ⟨e, hu, hg⟩ := elIs_some k3
  simp at hg
  obtain ⟨⟨⟨hsz, hzero⟩, hze⟩, hty⟩ := hg
  have hty' := tyIs_ok hty
  have hpos := eszOk_pos k0
  obtain ⟨en, ty⟩ := esz
  simp only at hsz hze hs hty' hpos
  subst hze
  obtain ⟨ti, z, hi, hz, hc⟩ := zeroIs_some hzero
  have hzr := okCells_rel (β := β) hc
  simp only [step1] at hs
  split at hs
  · rename_i hbig
    simp only [Option.bind_eq_some_iff, Option.map_eq_some_iff, Prod.mk.injEq] at hs
    obtain ⟨ps, hps, cs, hfill, rfl, rfl⟩ := hs
    have hm := made_rel hzr len
    have hp := evParts_rel (a := a) (fun q p => p.1 = q.1 * zero.length ∧ p.2.1 = zero.length) hE (okSl_rel k2) hps
    obtain ⟨ws, e3, e4⟩ := fill_run (fun i => some (i * zero.length, zero.length)) hm (hp.mono fun p q ⟨⟨x, y, f1, f2⟩, rest⟩ => ⟨by
      simp only at f1 f2; simp [f1, f2], rest⟩) hfill
    obtain ⟨L, l1, l2, l3, l4, q1, q2⟩ := alloc_out R hf e hty' e4
    have hlen : ws.length = len * zero.length := by
      rw [← e4.length, fillA_len hfill, rep_length]
    refine ⟨_, _, q1, q2, _, ?_, .sc (slc_new l1 l2 (Nat.le_refl len) (fun k hk => by simpa using hk) (by rw [l4]; exact hpos) (by rw [l4, l3, hlen]; exact Nat.le_refl _))⟩
    have hsz' : (sizeOf e).run P w = .ok zero.length w := run_sz hsz w
    have hzv : (zeroValue e).run P w = .ok z w := by simp [zeroValue, typeInfo, hi, hz]
    have e3' : Instr.fill (fun i => some (i * zero.length, zero.length)) (madeCells z.cells (len * zero.length)) (parts'.map fun (q : Nat × Operand) => (q.1, a.eval q.2)).toList = some ws.toArray := by
      rw [← e3]; simp
    have hbig' : ¬ (len * zero.length > 2 ^ 24) := by omega
    simp only [execOp, hop, Instr.buildSlice, Sem.run_bind, run_und hu, hsz', Result.andThen_ok]
    simp only [hbig', if_false]
    by_cases h0 : len * zero.length = 0
    · have e4' : Instr.fill (fun i => some (i * zero.length, zero.length)) (Array.map (fun x => (default : Value)) (Array.range 0)) (List.map (fun x => (x.fst, a.eval x.snd)) parts'.toList) = some ws.toArray := by
        have e5 := e3'
        rw [h0] at e5
        simpa [madeCells, Array.range_zero'] using e5
      simp [h0, e4', newRow]
    · have e4' : Instr.fill (fun i => some (i * zero.length, zero.length)) (Array.map (fun x => z.cells[x % z.cells.size]!) (Array.range (len * zero.length))) (List.map (fun x => (x.fst, a.eval x.snd)) parts'.toList) = some ws.toArray := by
        have e5 := e3'
        rw [Array.toList_map] at e5
        exact e5
      simp only [if_neg h0]
      simp [hzv, e4', newRow]
  · simp at hs

theorem s_mk {esz : ESz} {bytes : Nat} {zero : List SV} {x y : AO} {o : Oper} {v : Option AV} {h' : Heap} (hok : okOp P (.mk esz bytes zero x y) o.op = true) (hE : ERel β E a.tmps) (R : Rep β h w) (hf : fresh β h h')
    (hs : step1 E h (.mk esz bytes zero x y) = some (v, h')) : Out1 β h w ((execOp a.eval o).run P w) v h' := by
  cases hop : o.op <;> rw [hop] at hok <;> simp only [okOp, Bool.and_eq_true, Bool.false_eq_true] at hok
  rename_i t x' y'
  obtain ⟨⟨⟨k1, k2⟩, k0⟩, k3⟩ := hok
  obtain ⟨e, hu, hg⟩ := elIs_some k3
  simp at hg
  obtain ⟨⟨⟨⟨hsz, hby⟩, hzero⟩, hze⟩, hty⟩ := hg
  have hty' := tyIs_ok hty
  have hpos := eszOk_pos k0
  obtain ⟨en, ty⟩ := esz
  simp only at hsz hze hs hty' hpos
  subst hze
  obtain ⟨ti, z, hi, hz, hc⟩ := zeroIs_some hzero
  have hzr := okCells_rel (β := β) hc
  have hs1 : ti.size = zero.length := by simpa [szIs, hi] using hsz
  have hs2 : ti.bytes = bytes := by simpa [byIs, hi] using hby
  simp only [step1] at hs
  split at hs
  · rename_i kl n km m hp hq
    split at hs
    · rename_i hb
      obtain ⟨b1, b2, b3⟩ := hb
      simp at hs
      obtain ⟨rfl, rfl⟩ := hs
      have r1 := evS_rel k1 hE hp
      have r2 := evS_rel k2 hE hq
      generalize hpv : a.eval x' = pv at r1
      generalize hqv : a.eval y' = qv at r2
      cases r1
      cases r2
      have hbig : (bigN : Int) = 1099511627776 := rfl
      rw [show ((bytes + 1 : Nat) : Int) = (bytes : Int) + 1 by omega, Int.mul_add, hbig] at b3
      have b0 : 0 ≤ m * (bytes : Int) := Int.mul_nonneg (by omega) (by omega)
      have hr := run_make (P := P) w t e ti z hu hi hz kl km n m b1 b2 (by rw [hs2, Int.mul_comm]; omega) (by omega)
      have hm := made_rel hzr m.toNat
      rw [hs1] at hr
      obtain ⟨L, l1, l2, l3, l4, q1, q2⟩ := alloc_out R hf e hty' hm
      refine ⟨_, _, q1, q2, _, ?_, .sc (slc_new (n := n.toNat) (c := m.toNat) l1 l2 (by omega) (fun k hk => by simpa using hk) (by rw [l4]; exact hpos) (by rw [l4, l3]; simp [madeCells]))⟩
      simp [execOp, hop, hpv, hqv, hr]
    · simp at hs
  · simp at hs

theorem bnd_run {d l : Nat} {x : Option AO} {x' : Option Operand} (hok : okOpt x x' = true) (hE : ERel β E a.tmps) (hb : bnd E d x = some l) :
    (x' = none ∧ l = d) ∨ ∃ y k, x' = some y ∧ a.eval y = .int k l := by
  unfold okOpt at hok
  split at hok
  · simp [bnd] at hb; exact .inl ⟨rfl, hb.symm⟩
  · rename_i x y
    refine .inr ⟨y, ?_⟩
    simp only [bnd] at hb
    split at hb
    · rename_i k n hx
      have r := evS_rel hok hE hx
      split at hb
      · rename_i hn
        simp at hb; subst hb
        generalize hv : a.eval y = yv at r
        cases r
        exact ⟨k, rfl, by rw [Int.toNat_of_nonneg hn]⟩
      · simp at hb
    · simp at hb
  · simp at hok

theorem bounds_run {isS : Bool} {len cap l u : Nat} {lo hi : Option AO} {lo' hi' : Option Operand} (k1 : okOpt lo lo' = true) (k2 : okOpt hi hi' = true) (hE : ERel β E a.tmps)
    (h1 : bnd E 0 lo = some l) (h2 : bnd E len hi = some u) (hlu : l ≤ u) (hu : u ≤ cap) (w : World) :
    (Instr.sliceBounds isS len cap (lo'.map a.eval) (hi'.map a.eval) none).run P w = .ok (l, u, cap) w := by
  rcases bnd_run (a := a) k1 hE h1 with ⟨rfl, rfl⟩ | ⟨y, k, rfl, hy⟩ <;> rcases bnd_run (a := a) k2 hE h2 with ⟨rfl, rfl⟩ | ⟨y', k', rfl, hy'⟩
  · simp [Instr.sliceBounds]
  · simp [Instr.sliceBounds, hy', Instr.sliceBound, asIntOf, hu]
  · simp [Instr.sliceBounds, hy, Instr.sliceBound, asIntOf, hlu]
  · simp [Instr.sliceBounds, hy, hy', Instr.sliceBound, asIntOf, hlu, hu]

theorem s_sl {esz : ESz} {x : AO} {lo hi : Option AO} {o : Oper} {v : Option AV} {h' : Heap} (hok : okOp P (.sl esz x lo hi) o.op = true) (hE : ERel β E a.tmps) (R : Rep β h w)
    (hs : step1 E h (.sl esz x lo hi) = some (v, h')) : Out1 β h w ((execOp a.eval o).run P w) v h' := by
  cases hop : o.op <;> rw [hop] at hok <;> simp only [okOp, Bool.and_eq_true, Bool.false_eq_true] at hok
  rename_i t x' lo' hi' mx
  obtain ⟨⟨⟨⟨k1, k2⟩, k3⟩, k4⟩, k5⟩ := hok
  obtain ⟨e, hu, hsz⟩ := elIs_some k5
  have hmx : mx = none := by simpa using k4
  subst hmx
  simp only [step1, Option.bind_eq_some_iff, Option.map_eq_some_iff, Prod.mk.injEq] at hs
  obtain ⟨p, hp, n, hn, l, hl, u, hu', s, hs', rfl, rfl⟩ := hs
  have r1 := evS_rel k1 hE hp
  generalize hpv : a.eval x' = pv at r1
  unfold sliceS at hs'
  split at hs'
  · split at hs'
    · rename_i hb
      obtain ⟨rfl, rfl⟩ := hb
      simp at hs'; subst hs'
      simp [lenS] at hn; subst hn
      cases r1
      refine out_pure R ?_ (.sc .nilS)
      have hb := bounds_run (P := P) (isS := true) (len := 0) (cap := 0) k2 k3 hE hl hu' (Nat.le_refl _) (Nat.le_refl _) w
      simp [execOp, hop, hpv, Instr.sliceAt, Instr.slice, run_und hu, hb, run_sz hsz]
    · simp at hs'
  · rename_i id off n' cap
    split at hs'
    · rename_i bk hg
      split at hs'
      · rename_i hb
        obtain ⟨he', hb1, hb2⟩ := hb
        simp at hs'; subst hs'
        simp [lenS] at hn; subst hn
        cases r1 with
        | slc hL hc hl' ho hb' =>
          rename_i L c ad
          have he := R.sz id bk L hg hL
          generalize bk.esz = e' at he he'
          subst he'
          have hb := bounds_run (P := P) (isS := true) (len := n') (cap := c) k2 k3 hE hl (by simpa using hu') hb1 (by omega) w
          have hmul : l * e'.n + (c - l) * e'.n = c * e'.n := by rw [← Nat.add_mul]; congr 1; omega
          by_cases hcl : c = l
          · subst hcl
            refine out_pure R (c := .slice (some ad) (u - c) (c - c)) ?_ (.sc (.slc hL ?_ (by omega) (by omega) (by omega)))
            · simp [execOp, hop, hpv, Instr.sliceAt, Instr.slice, run_und hu, hb, run_sz hsz]
            · intro k hk
              simp at hk
              obtain ⟨k', hk', rfl⟩ := hk
              have := hc k' hk'; omega
          · have had := ho (by omega)
            have hb2 := hb' (by omega)
            subst had
            refine out_pure R (c := .slice (some ⟨L.b, L.base + off + l * e'.n, none⟩) (u - l) (c - l)) ?_ (.sc (.slc hL ?_ (by omega) ?_ ?_))
            · simp [execOp, hop, hpv, Instr.sliceAt, Instr.slice, run_und hu, hb, run_sz hsz, hcl, Addr.add_off]
            · intro k hk
              simp at hk
              obtain ⟨k', hk', rfl⟩ := hk
              have := hc k' hk'; omega
            · intro _
              rw [Nat.add_assoc]
            · intro _
              rw [he] at hb2 ⊢
              exact ⟨hb2.1, by have := hb2.2; omega⟩
      · simp at hs'
    · simp at hs'
  · simp at hs'

theorem s_sl1 {x : AO} {lo hi : Option AO} {o : Oper} {v : Option AV} {h' : Heap} (hok : okOp P (.sl1 x lo hi) o.op = true) (hE : ERel β E a.tmps) (R : Rep β h w)
    (hs : step1 E h (.sl1 x lo hi) = some (v, h')) : Out1 β h w ((execOp a.eval o).run P w) v h' := by
  cases hop : o.op <;> rw [hop] at hok <;> simp only [okOp, Bool.and_eq_true, Bool.false_eq_true] at hok
  rename_i t x' lo' hi' mx
  obtain ⟨⟨⟨⟨k1, k2⟩, k3⟩, k4⟩, k5⟩ := hok
  obtain ⟨e, hu, hsz⟩ := elIs_some k5
  have hmx : mx = none := by simpa using k4
  subst hmx
  simp only [step1, Option.bind_eq_some_iff, Option.map_eq_some_iff, Prod.mk.injEq] at hs
  obtain ⟨p, hp, n, hn, l, hl, u, hu', s, hs', rfl, rfl⟩ := hs
  have r1 := evS_rel k1 hE hp
  generalize hpv : a.eval x' = pv at r1
  unfold slice1 at hs'
  split at hs'
  · split at hs'
    · rename_i hb
      obtain ⟨rfl, rfl⟩ := hb
      simp at hs'; subst hs'
      simp [lenS] at hn; subst hn
      cases r1
      refine out_pure R ?_ (.sc .nilS)
      have hb := bounds_run (P := P) (isS := true) (len := 0) (cap := 0) k2 k3 hE hl hu' (Nat.le_refl _) (Nat.le_refl _) w
      simp [execOp, hop, hpv, Instr.sliceAt, Instr.slice, run_und hu, hb, run_sz hsz]
    · simp at hs'
  · rename_i id off n' cap
    split at hs'
    · rename_i hb
      obtain ⟨hb1, hb2⟩ := hb
      simp at hs'; subst hs'
      simp [lenS] at hn; subst hn
      cases r1 with
      | slc hL hc hl' ho hb' =>
        rename_i L c ad
        have hb := bounds_run (P := P) (isS := true) (len := n') (cap := c) k2 k3 hE hl (by simpa using hu') hb1 (by omega) w
        by_cases hcl : c = l
        · subst hcl
          refine out_pure R (c := .slice (some ad) (u - c) (c - c)) ?_ (.sc (.slc hL ?_ (by omega) (by omega) (by omega)))
          · simp [execOp, hop, hpv, Instr.sliceAt, Instr.slice, run_und hu, hb, run_sz hsz]
          · intro k hk
            simp at hk
            obtain ⟨k', hk', rfl⟩ := hk
            have := hc k' hk'; omega
        · have had := ho (by omega)
          obtain ⟨hb3, hb4⟩ := hb' (by omega)
          subst had
          refine out_pure R (c := .slice (some ⟨L.b, L.base + off + l, none⟩) (u - l) (c - l)) ?_ (.sc (.slc hL ?_ (by omega) ?_ ?_))
          · simp [execOp, hop, hpv, Instr.sliceAt, Instr.slice, run_und hu, hb, run_sz hsz, hcl, Addr.add_off]
          · intro k hk
            simp at hk
            obtain ⟨k', hk', rfl⟩ := hk
            have := hc k' hk'; omega
          · intro _
            rw [Nat.add_assoc]
          · intro _
            refine ⟨hb3, ?_⟩
            have h1 : (c - l) * L.esz.n + l * L.esz.n = c * L.esz.n := by rw [← Nat.add_mul]; congr 1; omega
            have h2 : l * 1 ≤ l * L.esz.n := Nat.mul_le_mul_left _ hb3
            omega
    · simp at hs'
  · simp at hs'

theorem s_slS {x : AO} {lo hi : Option AO} {o : Oper} {v : Option AV} {h' : Heap} (hok : okOp P (.slS x lo hi) o.op = true) (hE : ERel β E a.tmps) (R : Rep β h w)
    (hs : step1 E h (.slS x lo hi) = some (v, h')) : Out1 β h w ((execOp a.eval o).run P w) v h' := by
  cases hop : o.op <;> rw [hop] at hok <;> simp only [okOp, Bool.and_eq_true, Bool.false_eq_true] at hok
  rename_i t x' lo' hi' mx
  obtain ⟨⟨⟨⟨k1, k2⟩, k3⟩, k4⟩, k5⟩ := hok
  have hu := strIs_some k5
  have hmx : mx = none := by simpa using k4
  subst hmx
  simp only [step1] at hs
  split at hs
  · rename_i s hp
    simp only [Option.bind_eq_some_iff] at hs
    obtain ⟨l, hl, u, hu', hs⟩ := hs
    split at hs
    · rename_i hb
      simp at hs
      obtain ⟨rfl, rfl⟩ := hs
      have r1 := evS_rel k1 hE hp
      generalize hpv : a.eval x' = pv at r1
      cases r1
      have hbr := bounds_run (P := P) (isS := false) (len := s.size) (cap := s.size) k2 k3 hE hl hu' hb.1 hb.2 w
      refine out_pure R ?_ (.sc (.str _))
      simp [execOp, hop, hpv, Instr.sliceAt, Instr.slice, run_und hu, hbr]
    · simp at hs
  · simp at hs

theorem s_ext {x : AO} {i : Nat} {o : Oper} {v : Option AV} {h' : Heap} (hok : okOp P (.ext x i) o.op = true) (hE : ERel β E a.tmps) (R : Rep β h w)
    (hs : step1 E h (.ext x i) = some (v, h')) : Out1 β h w ((execOp a.eval o).run P w) v h' := by
  cases hop : o.op <;> rw [hop] at hok <;> simp [okOp] at hok
  rename_i x' i'
  obtain ⟨k1, rfl⟩ := hok
  simp only [step1] at hs
  split at hs
  · rename_i xs hp
    simp only [Option.map_eq_some_iff, Prod.mk.injEq] at hs
    obtain ⟨p, hp', rfl, rfl⟩ := hs
    have r1 := ev_rel k1 hE hp
    generalize hpv : a.eval x' = pv at r1
    cases r1 with
    | tup hr =>
      obtain ⟨c, q1, q2⟩ := hr.get hp'
      refine out_pure R ?_ q2.av
      simp [execOp, hop, hpv, Instr.extract, q1]
  · simp at hs

theorem caps_rel : ∀ {cs : List SV} {ps : List (Nat × Nat)} {vs : List Value}, F2 (SRel β) cs vs → (cs.mapM fun | SV.ptr i o => some (i, o) | _ => none) = some ps → F2 (CapR β) ps vs
  | [], ps, vs, h, hm => by
    cases h
    simp at hm; subst hm; exact .nil
  | c :: cs, ps, vs, h, hm => by
    cases h with
    | cons h1 h2 =>
      simp only [List.mapM_cons, Option.bind_eq_bind, Option.bind_eq_some_iff] at hm
      obtain ⟨p, hp, r, hr, hm⟩ := hm
      simp at hm; subst hm
      split at hp
      · simp at hp; subst hp
        cases h1 with
        | ptr hL => exact .cons ⟨_, hL, rfl⟩ (caps_rel h2 hr)
      · simp at hp

theorem s_mkf {f : FuncId} {caps : List AO} {o : Oper} {v : Option AV} {h' : Heap} (hok : okOp P (.mkf f caps) o.op = true) (hE : ERel β E a.tmps) (R : Rep β h w)
    (hs : step1 E h (.mkf f caps) = some (v, h')) : Out1 β h w ((execOp a.eval o).run P w) v h' := by
  cases hop : o.op <;> rw [hop] at hok
  case makeFunc fn first captured =>
    cases fn <;> simp [okOp] at hok
    rename_i g
    obtain ⟨⟨rfl, rfl⟩, k3⟩ := hok
    simp only [step1, Option.bind_eq_some_iff, Option.map_eq_some_iff, Prod.mk.injEq] at hs
    obtain ⟨cs, hcs, ps, hps, rfl, rfl⟩ := hs
    have r := caps_rel (evSs_rel hE k3 hcs) hps
    refine out_pure R ?_ (.sc (.fn r))
    simp [execOp, hop, Instr.makeFunc]
    apply Array.ext'
    simp
  all_goals simp [okOp] at hok

theorem s_nilc {x : AO} {o : Oper} {v : Option AV} {h' : Heap} (hok : okOp P (.nilc x) o.op = true) (hE : ERel β E a.tmps) (R : Rep β h w)
    (hs : step1 E h (.nilc x) = some (v, h')) : Out1 β h w ((execOp a.eval o).run P w) v h' := by
  cases hop : o.op <;> rw [hop] at hok <;> simp [okOp] at hok
  rename_i x'
  simp only [step1] at hs
  split at hs
  · rename_i i off hp
    simp at hs
    obtain ⟨rfl, rfl⟩ := hs
    have r1 := evS_rel hok hE hp
    generalize hpv : a.eval x' = pv at r1
    cases r1 with
    | ptr hL => exact out_pure R (by simp [execOp, hop, hpv]) (.sc (.ptr hL))
  · rename_i f cs hp
    simp at hs
    obtain ⟨rfl, rfl⟩ := hs
    have r1 := evS_rel hok hE hp
    generalize hpv : a.eval x' = pv at r1
    cases r1 with
    | fn hc => exact out_pure R (by simp [execOp, hop, hpv]) (.sc (.fn hc))
  · simp at hs

end Go.Ab
