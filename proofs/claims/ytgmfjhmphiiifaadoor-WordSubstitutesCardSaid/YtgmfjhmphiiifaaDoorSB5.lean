/- Substitute at the model: the walk. -/
import Derived.Test.YtgmfjhmphiiifaaDoorSB4
import Derived.Test.YtgmfjhmphiiifaaDoorSB1
namespace Go.Proofs.YtgmfjhmphiiifaaDoor
open Go.RowKit Go.Shelf Go.Ab
set_option linter.unusedVariables false
set_option linter.unusedSectionVars false
attribute [local go_sem] Oper.semAt_some

section
variable [Base]
/-- What is kept from letter to letter. -/
structure SI (w : World) (X : Nat → Prop) (cb : Nat) (vs : List Int) (Ds : List Nat) (W : World) : Prop where
  below : Below w.heap.size w W
  lo : w.heap.size ≤ cb
  fz : W.frozen? ⟨cb, 0, none⟩ = false
  res : ∃ c, W.cell? ⟨cb, 0, none⟩ = some c ∧ PS w.heap.size X vs c W
  hx : X cb ∧ ∀ b, X b → b < W.heap.size
  nd : Ds.Nodup
  mks : ∀ D ∈ Ds, w.heap.size ≤ D ∧ W.heap[D]? = some (.deferred (some []))
theorem cell_lt {W : World} {b i : Nat} {v : Value} (h : W.cell? ⟨b, i, none⟩ = some v) : b < W.heap.size ∧ ∃ ccs e fz, W.heap[b]? = some (.cells ccs e fz) := by
  unfold World.cell? at h
  split at h
  · rename_i ccs e fz hh
    exact ⟨(Array.getElem?_eq_some_iff.1 hh).1, _, _, _, hh⟩
  · cases h
theorem SI.hi {w : World} {X : Nat → Prop} {cb : Nat} {vs : List Int} {Ds : List Nat} {W : World} (s : SI w X cb vs Ds W) : cb < W.heap.size := by
  obtain ⟨c, h, -⟩ := s.res
  exact (cell_lt h).1
theorem frozen_heap {W W' : World} {b : Nat} (h : W'.heap[b]? = W.heap[b]?) (i : Nat) : W'.frozen? ⟨b, i, none⟩ = W.frozen? ⟨b, i, none⟩ := by
  simp [World.frozen?, h]
theorem SI.push {w : World} {X : Nat → Prop} {cb : Nat} {vs vs' : List Int} {Ds : List Nat} {W W3 : World} {c' : Value} (s : SI w X cb vs Ds W) (p1 : PS w.heap.size X vs' c' W3) (p2 : KeepsOthers W W3) (p3 : Below w.heap.size W W3) (p4 : ∀ b, X b → W3.heap[b]? = W.heap[b]?) :
    SI w X cb vs' Ds (W3.setCell ⟨cb, 0, none⟩ c') := by
  obtain ⟨c, h1, h2⟩ := s.res
  have hc3 := (cell_heap (p4 cb s.hx.1) 0).trans h1
  refine ⟨s.below.trans (p3.trans ((Below.refl _ W3).setCell (p := ⟨cb, 0, none⟩) s.lo _)), s.lo, by rw [World.frozen?_setCell]; exact (frozen_heap (p4 cb s.hx.1) 0).trans s.fz, ⟨c', World.cell?_setCell_same' _ _ _ (by rw [hc3]; rfl), p1.kept fun b ccs e fz hb h => (Below.heap_setCell W3 _ _ _ (fun e => hb (by rw [e]; exact s.hx.1))).trans h⟩, ⟨s.hx.1, fun b hb => Nat.lt_of_lt_of_le (s.hx.2 b hb) (p2.trans (KeepsOthers.setCell W3 _ _)).size⟩, s.nd, fun D hD => ?_⟩
  obtain ⟨q1, q2⟩ := s.mks D hD
  exact ⟨q1, (p2.trans (KeepsOthers.setCell W3 _ _)).same D _ q2 rfl⟩
theorem SI.grown {w : World} {X : Nat → Prop} {cb : Nat} {vs : List Int} {Ds : List Nat} {W W' : World} {row : Option Nat} (s : SI w X cb vs Ds W) (hg : W.grownBy W' row) (hr : ∀ r, row = some r → w.heap.size ≤ r ∧ r ∉ Ds ∧ ∃ o : Obj, W.heap[r]? = some o ∧ o.isCells = false) : SI w X cb vs Ds W' := by
  obtain ⟨c, h1, h2⟩ := s.res
  have hno : ∀ (b : Nat) (ccs : Array Value) (e : TypeId) (fz : Nat × Nat), W.heap[b]? = some (.cells ccs e fz) → W'.heap[b]? = some (.cells ccs e fz) := fun b ccs e fz hb => by
    rw [hg.block b (Array.getElem?_eq_some_iff.1 hb).1 (fun e => ?_)]
    · exact hb
    · obtain ⟨-, -, o, q1, q2⟩ := hr _ e.symm
      rw [hb] at q1
      cases q1
      simp [Obj.isCells] at q2
  obtain ⟨l1, ccs, e, fz, l2⟩ := cell_lt h1
  have l3 : W'.heap[cb]? = W.heap[cb]? := by rw [l2]; exact hno _ _ _ _ l2
  refine ⟨s.below.grown hg s.below.size (fun r e => (hr r e).1), s.lo, (frozen_heap l3 0).trans s.fz, ⟨c, (cell_heap l3 0).trans h1, h2.kept fun b ccs e fz hb h => hno _ _ _ _ h⟩, ⟨s.hx.1, fun b hb => Nat.lt_of_lt_of_le (s.hx.2 b hb) hg.size⟩, s.nd, fun D hD => ?_⟩
  obtain ⟨q1, q2⟩ := s.mks D hD
  exact ⟨q1, (hg.block D (Array.getElem?_eq_some_iff.1 q2).1 (fun e => (hr _ e.symm).2.1 hD)).trans q2⟩

theorem take_imL {imgs : List (List Int)} {wl : List Int} {k : Nat} {x : Int} (h : wl[k]? = some x) : imL imgs (wl.take (k + 1)) = imL imgs (wl.take k) ++ im imgs x := by
  rw [take_snoc h, imL_app, imL_one]

theorem bk_small {zs : List Int} (hr : ∀ x ∈ zs, -1000000000000 ≤ x ∧ x ≤ 1000000000000) (j : Nat) : -1000000000000 ≤ (bk zs j).2 ∧ (bk zs j).2 ≤ 1000000000000 := by
  simp only [bk]
  cases h : zs[zs.length - 1 - j]? with
  | none => simp
  | some y => exact hr y (List.mem_of_getElem? h)
theorem inv_list (zs : List Int) : (List.range zs.length).map (fun j => -(bk zs j).2) = zs.reverse.map (- ·) := by
  apply List.ext_getElem
  · simp
  · intro i h1 h2
    simp at h1 h2
    simp only [List.getElem_map, List.getElem_range, List.getElem_reverse, bk]
    rw [List.getElem?_eq_getElem (by omega)]
    rfl
theorem imL_len {imgs : List (List Int)} (hb : ∀ ys ∈ imgs, ys.length ≤ 1000 ∧ ∀ y ∈ ys, -1000000000000 ≤ y ∧ y ≤ 1000000000000) : ∀ wl : List Int, (imL imgs wl).length ≤ 1000 * wl.length
  | [] => by simp [imL]
  | x :: wl => by
    have h1 := imL_len hb wl
    have h2 : ∀ j, (imgs.getD j []).length ≤ 1000 := fun j => by
      rw [List.getD_eq_getElem?_getD]
      cases h : imgs[j]? with
      | none => simp
      | some ys => exact (hb ys (List.mem_of_getElem? h)).1
    have h3 : (im imgs x).length ≤ 1000 := by
      unfold im
      split
      · exact h2 _
      · simpa [rn] using h2 _
    have e : imL imgs (x :: wl) = im imgs x ++ imL imgs wl := rfl
    rw [e, List.length_append, List.length_cons]
    omega
theorem SI.turn {w : World} {X Y : Nat → Prop} {cb : Nat} {vs : List Int} {Ds : List Nat} {W : World} (s : SI w X cb vs Ds W) (h : ∀ b, b < W.heap.size → ¬ X b → ¬ Y b) (hY : Y cb ∧ ∀ b, Y b → b < W.heap.size) : SI w Y cb vs Ds W := by
  obtain ⟨s1, s2, s3, ⟨c, s4, s5⟩, s6, s7, s8⟩ := s
  exact ⟨s1, s2, s3, ⟨c, s4, s5.turn h⟩, hY, s7, s8⟩
theorem SI.drew {w : World} {X : Nat → Prop} {cb : Nat} {vs : List Int} {Ds : List Nat} {W : World} (s : SI w X cb vs Ds W) : SI w X cb vs Ds W.drew := ⟨s.below.drew, s.lo, s.fz, s.res, s.hx, s.nd, s.mks⟩
/-- Where nothing stops. -/
def noP (Q : Exit → Act → World → Prop) : Exit → Act → World → Prop
  | .panic _, _, _ => False
  | e, a, w => Q e a w
theorem wpIn_noP {c : Code} {F : Fence} {n : Nat} {P : Program} {Q : Exit → Act → World → Prop} {a : Act} {w : World} (h : c.wpIn F n P (noP Q) a w) : c.wpIn F n P Q a w :=
  wpIn_mono h fun e a w h => by cases e <;> first | exact h | exact h.elim
def NoP (Q : Exit → Act → World → Prop) : Prop := ∀ c a w, ¬ Q (.panic c) a w
theorem NoP.noP (Q : Exit → Act → World → Prop) : NoP (noP Q) := fun _ _ _ h => h
theorem NoP.then {K : Act → World → Prop} {Q : Exit → Act → World → Prop} (h : NoP Q) : NoP (Exit.then K Q) := fun c a w k => h c a w k
theorem NoP.any {Q : Exit → Act → World → Prop} (h : NoP Q) {d : Option Tmp} {v : Value} : ∀ c a w, Q (.panic c) (a.put d v) w → Q (.panic c) a w := fun c a w k => (h c _ w k).elim
theorem NoP.inBlock {i : Nat} {Q : Exit → Act → World → Prop} (h : NoP Q) : NoP (Exit.inBlock i Q) := fun c a w k => h c a w k
/-- The images at the model. -/
def Imgs (βR : Bt) (hR : Heap) (w : World) (aI : Option Addr) (imgs : List (List Int)) : Prop :=
  imgs = [] ∨ ∃ b off, aI = some ⟨b, off, none⟩ ∧ b < w.heap.size ∧ ∀ (i : Nat) (ys : List Int), imgs[i]? = some ys → ∃ (v : Value) (t : SV), w.cell? ⟨b, off + i, none⟩ = some v ∧ IsInts hR t ys ∧ SRel βR t v ∧ Lies w.heap.size w v ys

set_option maxRecDepth 100000 in
set_option maxHeartbeats 4000000 in
theorem sub_in {βR : Bt} {hR : Heap} (n : Nat) (hn : 3 ≤ n) (aw aI : Option Addr) (cw cI : Nat) (wl : List Int) (imgs : List (List Int)) (w : World) (rm : RM βR hR w) (hB : Base.B ≤ w.heap.size)
    (hL : Lies w.heap.size w (.slice aw wl.length cw) wl) (hI : Imgs βR hR w aI imgs) (b1 : wl.length ≤ 1000) (b2 : imgs.length ≤ 1000) (b3 : ∀ ys ∈ imgs, ys.length ≤ 1000 ∧ ∀ y ∈ ys, -1000000000000 ≤ y ∧ y ≤ 1000000000000) (b4 : ∀ x ∈ wl, -9223372036854775808 ≤ x ∧ x ≤ 9223372036854775807) :
    CallsIn Fence.wide n Tryd.prog 25 #[.slice aw wl.length cw, .slice aI imgs.length cI] w fun e W' => ∃ c er, e = .returned (.tuple #[c, .int .i64 er]) ∧ Below w.heap.size w W' ∧
      (((¬ ∀ x ∈ wl, Let imgs.length x) ∧ c = .slice none 0 0 ∧ er = 2) ∨ ((∀ x ∈ wl, Let imgs.length x) ∧ er = 0 ∧ ∃ cb, PS w.heap.size (· = cb) (imL imgs wl) c W')) := by
  have h1 : 1 ≤ n := by omega
  refine callsIn_of_wp_marks Tryd.func25 rfl trivial (wpIn_noP ?_) rfl
  simp only [Tryd.ntmps25, List.size_toArray, List.length_cons, List.length_nil, Nat.reduceAdd, Nat.reduceSub, Array.replicate_succ, Array.replicate_zero, List.push_toArray, List.append_toArray, List.nil_append, List.cons_append]
  have hF34 : Fence.wide.fn 34 := trivial
  have hF44 : Fence.wide.fn 44 := trivial
  have hF32 : Fence.wide.fn 32 := trivial
  have hF16 : Fence.wide.fn 16 := trivial
  gi_wp2
  gi_loopw [4, 5, 15] (fun r er i wr => ∃ k : Nat, k ≤ wl.length ∧ i = .int .i64 k ∧ r = .slice none 0 0 ∧ er = .int .i64 0 ∧ Below w.heap.size w wr ∧ ∀ x ∈ wl.take k, Let imgs.length x) (fun _ _ i _ => (wl.length - (intOf i).toNat))
  case atStart => exact ⟨0, Nat.zero_le _, rfl, rfl, rfl, Below.refl _ _, by simp⟩
  case round =>
    obtain ⟨k, hk, rfl, rfl, rfl, hb, hall⟩ := hrel
    by_cases hlt : k < wl.length
    · obtain ⟨x, hx⟩ : ∃ x, wl[k]? = some x := ⟨_, List.getElem?_eq_getElem hlt⟩
      have hr : -9223372036854775808 ≤ x ∧ x ≤ 9223372036854775807 := b4 x (List.mem_of_getElem? hx)
      have hL' := hL.below hb
      obtain ⟨bw, ow, rfl, hbw, hcx⟩ : ∃ bw ow, aw = some ⟨bw, ow, none⟩ ∧ bw < w.heap.size ∧ wr.cell? ⟨bw, ow + k, none⟩ = some (.int .i64 x) := by
        rcases hL' with ⟨a, c, e, rfl⟩ | ⟨b, off, c, e, hb, hc⟩
        · simp at hlt
        · cases e
          exact ⟨_, _, rfl, hb, by rw [hc k hlt, hx]; rfl⟩
      have hv := valid_one (rm.later hb) x 3 imgs.length (by omega)
      by_cases hlet : Let imgs.length x
      · rw [decide_eq_true hlet] at hv
        gi_wp2_with (gi_at_call 16; refine (callsIn_wide.2 hv).mono ?_; rintro e W3 ⟨rfl, hb3⟩)
        go_roundw
        case rel => exact ⟨k + 1, hlt, by simp, rfl, rfl, hb.trans (hb3.mono hb.size), all_snoc hx hall hlet⟩
        case measure => simp [intOf]; omega
      · rw [decide_eq_false hlet] at hv
        gi_wp2_with (gi_at_call 16; refine (callsIn_wide.2 hv).mono ?_; rintro e W3 ⟨rfl, hb3⟩)
        refine ⟨_, results_tmp2 rfl _ _ _, _, _, rfl, hb.trans (hb3.mono hb.size), .inl ⟨not_all hx hlet, rfl, rfl⟩⟩
    · obtain rfl : k = wl.length := by omega
      gi_wp2
      have bN := Boxed.new wr 25 (.slice none 0 0)
      have hS0 : SI w (· = wr.heap.size) wr.heap.size [] [] (wr.alloc (.cells #[.slice none 0 0] 25)) := ⟨hb.alloc hb.size _, hb.size, bN.frozen, ⟨_, bN.cell, .inl ⟨rfl, rfl⟩⟩, ⟨rfl, fun b e => by subst e; simp⟩, by simp, by simp⟩
      have hall' : ∀ x ∈ wl, Let imgs.length x := fun x hx => hall x (by rwa [List.take_of_length_le (Nat.le_refl _)])
      have hlow : ∀ (id : Nat) (M : Ab.Loc) cs rw z, hR[id]? = some (.cells cs rw z) → βR id = some M → M.b < w.heap.size := fun id M cs rw z h1 h2 => (rm.rep.blk _ _ _ _ _ h1 h2).lt
      refine wpIn_loop (fun a W => ∃ (k : Nat) (Ds : List Nat) (x10 x29 x30 x31 x32 x33 x34 x35 x36 x37 x38 x39 x40 x41 x42 x43 x44 x45 x46 x47 x55 : Value), k ≤ wl.length ∧ SI w (· = wr.heap.size) wr.heap.size (imL imgs (wl.take k)) Ds W ∧
        a = { tmps := #[.slice aw wl.length cw, .slice aI imgs.length cI, undef, undef, .slice none 0 0, .int .i64 0, undef, u7, .pointer (some ⟨wr.heap.size, 0, none⟩), undef, x10, undef, undef, .slice aw wl.length cw, .int .i64 wl.length, .int .i64 wl.length, .bool false, u17, u18, u19, u20, u21, u22, u23, u24, u25, .slice aw wl.length cw, .int .i64 wl.length, .int .i64 k, x29, x30, x31, x32, x33, x34, x35, x36, x37, x38, x39, x40, x41, x42, x43, x44, x45, x46, x47, undef, undef, undef, undef, undef, undef, undef, x55, undef], defers := Ds.map mkD }) (fun a W => wl.length - (intOf (a.tmps.getD 28 undef)).toNat) ⟨0, [], _, _, _, _, _, _, _, _, _, _, _, _, _, _, _, _, _, _, _, _, _, Nat.zero_le _, hS0, rfl⟩ ?_
      rintro a W ⟨k, Ds, x10, x29, x30, x31, x32, x33, x34, x35, x36, x37, x38, x39, x40, x41, x42, x43, x44, x45, x46, x47, x55, hk, s, rfl⟩
      have hvl := pushL_len (imL imgs (wl.take k)) []
      have hil := imL_len b3 (wl.take k)
      have htl : (wl.take k).length = k := by simp; omega
      have hs' := s.drew
      generalize hcb : wr.heap.size = cb at *
      generalize hvs : imL imgs (wl.take k) = vs at *
      obtain ⟨s1, s2, s3, ⟨c, s4, s5⟩, sx, s6, s7⟩ := s
      by_cases hlt : k < wl.length
      · obtain ⟨x, hx⟩ : ∃ x, wl[k]? = some x := ⟨_, List.getElem?_eq_getElem hlt⟩
        have hr : -9223372036854775808 ≤ x ∧ x ≤ 9223372036854775807 := b4 x (List.mem_of_getElem? hx)
        have hlet := hall' x (List.mem_of_getElem? hx)
        have hnext := take_imL (imgs := imgs) hx
        rw [hvs] at hnext
        obtain ⟨bw, ow, rfl, hbw, hcx⟩ : ∃ bw ow, aw = some ⟨bw, ow, none⟩ ∧ bw < w.heap.size ∧ W.cell? ⟨bw, ow + k, none⟩ = some (.int .i64 x) := by
          rcases hL.below s1 with ⟨a, c, e, rfl⟩ | ⟨b, off, c, e, hb, hc⟩
          · simp at hlt
          · cases e
            exact ⟨_, _, rfl, hb, by rw [hc k hlt, hx]; rfl⟩
        by_cases h0 : 0 < x
        · obtain ⟨j, rfl⟩ : ∃ j : Nat, x = (j : Int) + 1 := ⟨(x - 1).toNat, by omega⟩
          have hj : j < imgs.length := by unfold Let at hlet; omega
          obtain ⟨ys, hy⟩ : ∃ ys, imgs[j]? = some ys := ⟨_, List.getElem?_eq_getElem hj⟩
          obtain ⟨bi, oi, rfl, hbi, hat⟩ : ∃ b off, aI = some ⟨b, off, none⟩ ∧ b < w.heap.size ∧ ∀ (i : Nat) (ys : List Int), imgs[i]? = some ys → ∃ (v : Value) (t : SV), w.cell? ⟨b, off + i, none⟩ = some v ∧ IsInts hR t ys ∧ SRel βR t v ∧ Lies w.heap.size w v ys := hI.resolve_left (fun e => by rw [e] at hj; simp at hj)
          obtain ⟨v, t, hv1, hv2, hv3, hv4⟩ := hat j ys hy
          have hv1' : W.cell? ⟨bi, oi + j, none⟩ = some v := (s1.cell (p := ⟨bi, oi + j, none⟩) hbi).trans hv1
          have hys := b3 ys (List.mem_of_getElem? hy)
          have hpush := PS.push (W0 := W.drew) ft_ok HK1_ok (fun h0 h1 s l vs ls a b c d e f => call32 rfl h0 h1 s l vs ls a b c d e f) (rm.later s1.drew) s1.size hB (Below.refl _ W.drew) (X := (· = cb)) sx.2 (fun id M cs rw z h1 h2 => .inl (hlow id M cs rw z h1 h2)) s5 hv2 hv3 (by simp at hvl; omega) (fun y hy => by have := hys.2 y hy; omega)
          have him : im imgs ((j : Int) + 1) = ys := by
            unfold im
            rw [if_pos h0, List.getD_eq_getElem?_getD, show ((j : Int) + 1 - 1).toNat = j by omega, hy]; rfl
          rw [him] at hnext
          have hwj : IntKind.i64.wrap (j : Int) = j := IntWalk.i64_in _ (by omega)
          gi_wp2
          refine wpIn_region_any (by kernel_rfl) ?_
          change wpAnyIn _ _ _ _ _ _ _ _ _ (World.drew _)
          refine wpAnyIn_take (i := 1) (v := ?_) rfl rfl (by kernel_rfl) (by kernel_rfl) (by kernel_rfl) (fun _ _ _ h => h) ⟨Or.inl ⟨by rfl, ?_⟩, fun _ => rfl⟩ ?_
          case refine_2 => intro w; go_simp; try rfl
          refine wpAnyIn_take (i := 2) (v := ?_) rfl rfl (by kernel_rfl) (by kernel_rfl) (by kernel_rfl) (fun _ _ _ h => h) ⟨Or.inl ⟨by rfl, ?_⟩, fun _ => rfl⟩ ?_
          case refine_2 => intro w; go_simp; try rfl
          refine wpAnyIn_take (i := 3) (v := ?_) rfl rfl (by kernel_rfl) (by kernel_rfl) (by kernel_rfl) (fun _ _ _ h => h) ⟨Or.inl ⟨by rfl, ?_⟩, fun _ => rfl⟩ ?_
          case refine_2 => intro w; go_simp; try rfl
          refine wpAnyIn_take (i := 4) (v := ?_) rfl rfl (by kernel_rfl) (by kernel_rfl) (by kernel_rfl) (fun _ _ _ h => h) ⟨Or.inl ⟨by rfl, ?_⟩, fun _ => rfl⟩ ?_
          case refine_2 => intro w; go_simp; try rfl
          refine wpAnyIn_ready (rs := [0, 5]) (by kernel_rfl) (by simp) ?_
          refine AllReadyIn.cons rfl (fun K hK => ?_) (AllReadyIn.cons rfl (fun K hK => ?_) AllReadyIn.nil)
          · go_simp
            refine hK _ _ ?_; clear hK K
            refine wpAnyIn_ready (rs := [5]) (by kernel_rfl) (by simp) ?_
            refine AllReadyIn.cons rfl (fun K hK => ?_) AllReadyIn.nil
            go_simp
            refine hK _ _ ?_; clear hK K
            refine wpAnyIn_ready (rs := [6]) (by kernel_rfl) (by simp) ?_
            refine AllReadyIn.cons rfl (fun K hK => ?_) AllReadyIn.nil
            go_simp
            refine (callsIn_wide.2 hpush).mono ?_
            rintro e W3 ⟨c', rfl, p1, p2, p3, p4⟩
            obtain ⟨ad2, cp2, rfl⟩ := p1.slice
            have hc3 : W3.cell? ⟨cb, 0, none⟩ = some c := (cell_heap (p4 cb rfl) 0).trans s4
            have hf3 : W3.frozen? ⟨cb, 0, none⟩ = false := (frozen_heap (p4 cb rfl) 0).trans s3
            refine hK _ _ ?_; clear hK K
            refine wpAnyIn_ready (rs := [7]) (by kernel_rfl) (by simp) ?_
            refine AllReadyIn.cons rfl (fun K hK => ?_) AllReadyIn.nil
            go_simp
            refine hK _ _ ?_; clear hK K
            refine wpAnyIn_done (by kernel_rfl) ?_ _
            gi_wp2
            refine ⟨⟨k + 1, Ds, _, _, _, _, _, _, _, _, _, _, _, _, _, _, _, _, _, _, _, _, _, hlt, ?_, rfl⟩, ?_⟩
            · rw [hnext]
              exact hs'.push p1 p2 p3 p4
            · simp [intOf]; omega
          · go_simp
            refine hK _ _ ?_; clear hK K
            refine wpAnyIn_ready (rs := [0]) (by kernel_rfl) (by simp) ?_
            refine AllReadyIn.cons rfl (fun K hK => ?_) AllReadyIn.nil
            go_simp
            refine hK _ _ ?_; clear hK K
            refine wpAnyIn_ready (rs := [6]) (by kernel_rfl) (by simp) ?_
            refine AllReadyIn.cons rfl (fun K hK => ?_) AllReadyIn.nil
            go_simp
            refine (callsIn_wide.2 hpush).mono ?_
            rintro e W3 ⟨c', rfl, p1, p2, p3, p4⟩
            obtain ⟨ad2, cp2, rfl⟩ := p1.slice
            have hc3 : W3.cell? ⟨cb, 0, none⟩ = some c := (cell_heap (p4 cb rfl) 0).trans s4
            have hf3 : W3.frozen? ⟨cb, 0, none⟩ = false := (frozen_heap (p4 cb rfl) 0).trans s3
            refine hK _ _ ?_; clear hK K
            refine wpAnyIn_ready (rs := [7]) (by kernel_rfl) (by simp) ?_
            refine AllReadyIn.cons rfl (fun K hK => ?_) AllReadyIn.nil
            go_simp
            refine hK _ _ ?_; clear hK K
            refine wpAnyIn_done (by kernel_rfl) ?_ _
            gi_wp2
            refine ⟨⟨k + 1, Ds, _, _, _, _, _, _, _, _, _, _, _, _, _, _, _, _, _, _, _, _, _, hlt, ?_, rfl⟩, ?_⟩
            · rw [hnext]
              exact hs'.push p1 p2 p3 p4
            · simp [intOf]; omega
        · obtain ⟨j, rfl⟩ : ∃ j : Nat, x = -((j : Int) + 1) := ⟨(-x - 1).toNat, by unfold Let at hlet; omega⟩
          have hj : j < imgs.length := by unfold Let at hlet; omega
          obtain ⟨ys, hy⟩ : ∃ ys, imgs[j]? = some ys := ⟨_, List.getElem?_eq_getElem hj⟩
          obtain ⟨bi, oi, rfl, hbi, hat⟩ : ∃ b off, aI = some ⟨b, off, none⟩ ∧ b < w.heap.size ∧ ∀ (i : Nat) (ys : List Int), imgs[i]? = some ys → ∃ (v : Value) (t : SV), w.cell? ⟨b, off + i, none⟩ = some v ∧ IsInts hR t ys ∧ SRel βR t v ∧ Lies w.heap.size w v ys := hI.resolve_left (fun e => by rw [e] at hj; simp at hj)
          obtain ⟨v, t, hv1, hv2, hv3, hv4⟩ := hat j ys hy
          have hys := b3 ys (List.mem_of_getElem? hy)
          obtain ⟨ay, cy, rfl⟩ : ∃ ay cy, v = .slice ay ys.length cy := by
            rcases hv4 with ⟨a, cap, rfl, rfl⟩ | ⟨b, off, cap, rfl, -⟩
            · exact ⟨_, _, rfl⟩
            · exact ⟨_, _, rfl⟩
          have hv1' : W.cell? ⟨bi, oi + j, none⟩ = some (.slice ay ys.length cy) := (s1.cell (p := ⟨bi, oi + j, none⟩) hbi).trans hv1
          have him : im imgs (-((j : Int) + 1)) = ys.reverse.map (- ·) := by
            unfold im
            rw [if_neg h0, List.getD_eq_getElem?_getD, show (-(-((j : Int) + 1)) - 1).toNat = j by omega, hy]; rfl
          rw [him] at hnext
          gi_wp2_with (gi_at_call 34; refine (back_in (n - 1) _ _ _ _).mono ?_; rintro e w' ⟨rfl, rfl⟩)
          have hDs : ∀ D ∈ Ds, D < W.heap.size := fun D hD => (Array.getElem?_eq_some_iff.1 (s7 D hD).2).1
          have hcbW : cb < W.heap.size := hs'.hi
          have sA : SI w (fun b => b = cb ∨ b = W.heap.size) cb vs Ds (W.alloc (.cells #[.slice ay ys.length cy] 25)) := by
            obtain ⟨t1, t2, t3, ⟨c1, t4, t5⟩, tx, t6, t7⟩ := SI.grown (X := (· = cb)) (row := none) (SI.mk s1 s2 s3 ⟨c, s4, s5⟩ ⟨rfl, fun b hb => by rw [hb]; exact hcbW⟩ s6 s7) (World.grownBy_alloc W (.cells #[.slice ay ys.length cy] 25) none) (fun r e => by cases e)
            have ec : c1 = c := by
              have := (cell_heap (Below.heap_alloc W (.cells #[.slice ay ys.length cy] 25) cb hcbW) 0).trans s4
              rw [t4] at this
              exact Option.some.inj this
            refine ⟨t1, t2, t3, ⟨c1, t4, ?_⟩, ⟨.inl rfl, fun b hb => ?_⟩, t6, t7⟩
            · rw [ec]
              exact (s5.turn fun b hb h1 h2 => h2.elim h1 (fun e => by omega)).kept fun b ccs e fz _ h => (Below.heap_alloc W _ b (Array.getElem?_eq_some_iff.1 h).1).trans h
            · rcases hb with rfl | rfl
              · simp; omega
              · simp
          have bB := Boxed.new W 25 (.slice ay ys.length cy)
          have hn1 : 1 ≤ n - 1 - 1 := by omega
          have hbs := back_stops (n - 1) (by omega) W.heap.size w.heap.size _ ys (by omega) (W.alloc (.cells #[.slice ay ys.length cy] 25)) (by simp) (by have := s1.size; simp; omega) bB.cell (hv4.below sA.below)
          refine wpIn_rangeFunc_ownF rfl h1 (gf := 44) (lb := #[.pointer (some ⟨W.heap.size, 0, none⟩)]) rfl trivial (enters_of Tryd.func44 (by kernel_rfl) rfl)
            hbs Kp.trans (fun W1 l o o' hl ho hc _ => ⟨belowK_b (w := w) (Nat.le_refl _) W1 l o o' (by have := s1.size; simp at hl; omega) ho hc (by assumption), (World.putObj_heap_other (by simp at hl; omega))⟩) (Below.refl _ _) (fun _ => rfl)
            (fun pre W1 => SI w (fun b => b = cb ∨ b = W.heap.size) cb (vs ++ pre.map fun j => -(bk ys j).2) Ds W1) (fun _ _ _ => False) ?own (fun _ _ _ _ _ hs _ _ => hs) (by simpa using sA)
            (fun x => { tmps := #[.slice (some ⟨bw, ow, none⟩) wl.length cw, .slice (some ⟨bi, oi, none⟩) imgs.length cI, undef, undef, .slice none 0 0, .int .i64 0, undef, u7, .pointer (some ⟨cb, 0, none⟩), undef, .int .i64 (-((j : Int) + 1)), undef, .int .i64 (bk ys x).2, .slice (some ⟨bw, ow, none⟩) wl.length cw, .int .i64 wl.length, .int .i64 wl.length, .bool false, u17, u18, u19, u20, u21, u22, u23, u24, u25, .slice (some ⟨bw, ow, none⟩) wl.length cw, .int .i64 wl.length, .int .i64 k, .bool true, .pointer (some ⟨bw, ow + k, none⟩), .int .i64 (-((j : Int) + 1)), .int .i64 (-((j : Int) + 1)), .bool (decide ((j : Int) + 1 < 0)), x34, x35, x36, x37, x38, x39, x40, .slice (some ⟨bi, oi, none⟩) imgs.length cI, .int .i64 (-((j : Int) + 1)), .int .i64 ((j : Int) + 1), .int .i64 j, .pointer (some ⟨bi, oi + j, none⟩), .slice ay ys.length cy, .func (.func 44) #[] #[.pointer (some ⟨W.heap.size, 0, none⟩)], .int .i64 (bk ys x).1, .int .i64 (bk ys x).2, undef, undef, undef, undef, undef, x55, undef], defers := [] }) ?assign ?body ?done ?stop
          case own =>
            rintro pre W1 W2 row k1 hg hr
            exact k1.grown hg (fun r e => ⟨by have h8 := (hr r e).1; have := s1.size; simp at h8; omega, fun hD => by have := (hr r e).1; have := hDs r hD; simp at *; omega, (hr r e).2⟩)
          case assign =>
            intro l x W1 K hK
            gi_wp2
            exact hK
          case body =>
            rintro l pre x W1 k1 hpl
            have k1' := k1
            have hbx := bk_small hys.2 x
            have hpv := pushL_len (vs ++ pre.map fun j => -(bk ys j).2) []
            obtain ⟨t1, t2, t3, ⟨c1, t4, t5⟩, tx, t6, t7⟩ := k1
            have hpush := push_letter (rm.later t1) t1.size hB tx.2 hlow t5 (-(bk ys x).2) (by omega) (by simp at hpv hvl; omega) 3
            gi_wp2_with (gi_at_call 32; refine (CallsIn.inRound l (callsIn_wide.2 hpush)).mono ?_; rintro e W3 ⟨c', rfl, p1, p2, p3, p4⟩; obtain ⟨ad2, cp2, rfl⟩ := p1.slice; have hc3 := (cell_heap (p4 cb (.inl rfl)) 0).trans t4; have hf3 := (frozen_heap (p4 cb (.inl rfl)) 0).trans t3)
            have hne : W.heap.size ≠ cb := by omega
            refine ⟨p2.trans (KeepsOthers.setCell _ _ _), ⟨p3.trans ((Below.refl _ W3).setCell (p := ⟨cb, 0, none⟩) s2 _), (Below.heap_setCell W3 _ _ _ hne).trans (p4 _ (.inr rfl))⟩, ?_⟩
            show SI w _ cb (vs ++ ((pre ++ [x]).map fun j => -(bk ys j).2)) Ds _
            have k2 := k1'.push p1 p2 p3 p4
            simp only [List.append_assoc] at k2
            simp only [List.map_append, List.map_cons, List.map_nil]
            exact k2
          case done =>
            rintro D js W1 hD rfl k1 hK
            gi_wp2
            rw [inv_list] at k1
            refine ⟨⟨k + 1, D :: Ds, _, _, _, _, _, _, _, _, _, _, _, _, _, _, _, _, _, _, _, _, _, hlt, ?_, rfl⟩, ?_⟩
            · rw [hnext]
              obtain ⟨t1, t2, t3, ⟨c1, t4, t5⟩, tx, t6, t7⟩ := k1
              refine ⟨t1, t2, t3, ⟨c1, t4, t5.turn fun b _ h h2 => h (.inl h2)⟩, ⟨rfl, fun b hb => tx.2 b (.inl hb)⟩, List.nodup_cons.2 ⟨fun hD2 => ?_, t6⟩, fun D' hD' => ?_⟩
              · have := hDs D hD2
                simp at hD
                omega
              · rcases List.mem_cons.1 hD' with rfl | hD'
                · exact ⟨by have := s1.size; simp at hD; omega, hK⟩
                · exact t7 D' hD'
            · simp [intOf]; omega
          case stop =>
            rintro D c pre W1 _ _ h _
            exact h.elim
      · obtain rfl : k = wl.length := by omega
        rw [List.take_of_length_le (Nat.le_refl _)] at hvs
        gi_wp2
        exact leaves_marks (n₀ := w.heap.size) (fun W => results_tmp2 rfl _ _ _) Ds _ s6 s7 (fun W' hb hc => ⟨_, _, rfl, s1.trans hb, .inr ⟨hall', rfl, cb, by exact s5.kept fun b ccs e fz _ h => hc _ _ _ _ h⟩⟩)
end
end Go.Proofs.YtgmfjhmphiiifaaDoor
