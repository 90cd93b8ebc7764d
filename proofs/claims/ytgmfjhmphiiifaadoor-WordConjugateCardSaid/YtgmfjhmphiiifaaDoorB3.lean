/- Inverse at the model: the walk. -/
import Derived.Test.YtgmfjhmphiiifaaDoorB2
import Derived.Lib.JoinLaws
namespace Go.Proofs.YtgmfjhmphiiifaaDoor
open Go.RowKit Go.Shelf Go.Ab
set_option linter.unusedVariables false
attribute [local go_sem] Oper.semAt_some

theorem bk_small {zs : List Int} (hr : ∀ x ∈ zs, -1000000000000 ≤ x ∧ x ≤ 1000000000000) (j : Nat) : -1000000000000 ≤ (bk zs j).2 ∧ (bk zs j).2 ≤ 1000000000000 := by
  simp only [bk]
  cases h : zs[zs.length - 1 - j]? with
  | none => simp
  | some y => exact hr y (List.mem_of_getElem? h)

def IB (w : World) (cb Bs : Nat) (zs : List Int) (pre : List Nat) (W : World) : Prop :=
  (Below w.heap.size w W ∧ w.heap.size ≤ cb ∧ cb < Bs ∧ Bs < W.heap.size ∧ W.frozen? ⟨cb, 0, none⟩ = false ∧ ∃ ad cap, W.cell? ⟨cb, 0, none⟩ = some (.slice (some ad) (pushL [] (pre.map fun j => -(bk zs j).2)).length cap) ∧
    Priv w.heap.size cb Bs (pushL [] (pre.map fun j => -(bk zs j).2)) (.slice (some ad) (pushL [] (pre.map fun j => -(bk zs j).2)).length cap) W)

theorem inv_list (zs : List Int) : (List.range zs.length).map (fun j => -(bk zs j).2) = zs.reverse.map (- ·) := by
  apply List.ext_getElem
  · simp
  · intro i h1 h2
    simp at h1 h2
    simp only [List.getElem_map, List.getElem_range, List.getElem_reverse, bk]
    rw [List.getElem?_eq_getElem (by omega)]
    rfl
theorem frozen_heap {W W' : World} {b : Nat} (h : W'.heap[b]? = W.heap[b]?) (i : Nat) : W'.frozen? ⟨b, i, none⟩ = W.frozen? ⟨b, i, none⟩ := by
  simp [World.frozen?, h]
theorem start_priv (w : World) (n : Nat) (M : Array Value) (e : TypeId) (hM : madeCells #[Value.int .i64 0] n = M) (o1 o2 : Obj) :
    Priv w.heap.size (w.heap.size + 1) (w.heap.size + 1 + 1) [] (.slice (some ⟨w.heap.size, 0, none⟩) 0 n) (((w.alloc (.cells M e)).alloc o1).alloc o2) := by
  have hsz : M.size = n := by rw [← hM]; exact size_madeCells _ _
  have hR0 : Rep (fun _ => none) [] w := ⟨fun _ _ _ h => by simp at h, fun _ _ _ _ _ h => by simp at h, fun _ _ _ _ _ _ _ _ _ h => by simp at h⟩
  obtain ⟨S1, R1⟩ := alloc_done hR0 rfl M e (List.replicate n (.int .i64 0)) 1 (fun t ht => by simp at ht) (fun hh => by simp at hh) (by simp [hsz]) (fun i v hi => by
    obtain ⟨h1, h2⟩ := List.getElem?_eq_some_iff.1 hi
    simp at h1 h2
    subst h2
    refine ⟨.int .i64 0, ?_, .int _ _⟩
    rw [← hM]
    simp [madeCells, h1, Nat.mod_one])
  have hb : Below (w.heap.size + 1) (w.alloc (.cells M e)) (((w.alloc (.cells M e)).alloc o1).alloc o2) := (((Below.refl _ _).alloc (by simp) _).alloc (by simp) _)
  refine ⟨_, _, .slc 0 0 0 (some n), rep_later R1 (fun b hb' => hb.block b (by simpa using hb')), fun id hid => ?_, fun id L hL => ?_, ?_, by simp, ?_⟩
  · simp at hid
    rw [upd_other _ _ (by simp; omega)]
  · by_cases hi : id = 0
    · subst hi
      have : some (⟨w.heap.size, 0, M.size, 1⟩ : Ab.Loc) = some L := hL
      cases this
      exact ⟨Nat.le_refl _, by simp, by simp; try omega⟩
    · rw [upd_other _ _ (by simpa using hi)] at hL
      simp at hL
  · exact .inr ⟨0, some n, List.replicate n (.int .i64 0), rfl, Nat.zero_le _, rfl, rfl, by simp, Nat.zero_le _⟩
  · exact .slc (L := ⟨w.heap.size, 0, M.size, 1⟩) rfl (fun k hk => by cases hk; rfl) (Nat.zero_le _) (fun _ => rfl) (fun _ => ⟨Nat.le_refl _, by simp [hsz]⟩)

set_option maxRecDepth 100000 in
set_option maxHeartbeats 2000000 in
theorem inv_in (n : Nat) (hn : 3 ≤ n) (a : Option Addr) (len cap : Nat) (zs : List Int) (hlen : len = zs.length) (hz : zs.length ≤ 1000000) (hr : ∀ x ∈ zs, -1000000000000 ≤ x ∧ x ≤ 1000000000000) (w : World) (hI : Lies w.heap.size w (.slice a len cap) zs) :
    CallsIn Fence.wide n Tryd.prog 19 #[.slice a len cap] w fun e W' => ∃ c, e = .returned c ∧ Below w.heap.size w W' ∧ ∃ cb Bs, Priv w.heap.size cb Bs (invL zs) c W' := by
  have h1 : 1 ≤ n := by omega
  refine callsIn_of_wp_marks Tryd.func19 rfl trivial ?_ rfl
  simp only [Tryd.ntmps19, List.size_toArray, List.length_cons, List.length_nil, Nat.reduceAdd, Nat.reduceSub, Array.replicate_succ, Array.replicate_zero, List.push_toArray, List.append_toArray, List.nil_append, List.cons_append]
  subst hlen
  have hmk := run_make_room (P := Tryd.prog) 25 3 (.int .i64 0) 8 Tryd.underlying25 (by kernel_rfl) rfl .i64 .i64 zs.length (by omega) (by omega) w
  have hF34 : Fence.wide.fn 34 := trivial
  have hF44 : Fence.wide.fn 44 := trivial
  have hF32 : Fence.wide.fn 32 := trivial
  gi_wp2_with (gi_at_call 34; refine (back_in (n - 1) _ _ _ _).mono ?_; rintro e w' ⟨rfl, rfl⟩)
  generalize hM : madeCells #[Value.int .i64 0] zs.length = M at *
  have hB0 : Below w.heap.size w (((w.alloc (.cells M 3)).alloc (.cells #[.slice (some ⟨w.heap.size, 0, none⟩) 0 zs.length] 25)).alloc (.cells #[.slice a zs.length cap] 25)) :=
    (((Below.refl _ w).alloc (Nat.le_refl _) _).alloc (by simp) _).alloc (by simp; omega) _
  have bC := Boxed.new (w.alloc (.cells M 3)) 25 (.slice (some ⟨w.heap.size, 0, none⟩) 0 zs.length)
  have bN := Boxed.new ((w.alloc (.cells M 3)).alloc (.cells #[.slice (some ⟨w.heap.size, 0, none⟩) 0 zs.length] 25)) 25 (.slice a zs.length cap)
  simp only [World.size_alloc] at bC bN
  have hIB : IB w (w.heap.size + 1) (w.heap.size + 1 + 1) zs [] (((w.alloc (.cells M 3)).alloc (.cells #[.slice (some ⟨w.heap.size, 0, none⟩) 0 zs.length] 25)).alloc (.cells #[.slice a zs.length cap] 25)) :=
    ⟨hB0, by omega, by omega, by simp, (bC.alloc _).frozen, _, _, (bC.alloc _).cell, start_priv w zs.length M 3 hM _ _⟩
  have hbs := back_stops (n - 1) (by omega) (w.heap.size + 1 + 1) w.heap.size _ zs hz _ (by simp) (by simp; omega) bN.cell (hI.below hB0)
  refine wpIn_rangeFunc_ownF rfl h1 (gf := 44) (lb := #[.pointer (some ⟨w.heap.size + 1 + 1, 0, none⟩)]) rfl trivial (enters_of Tryd.func44 (by kernel_rfl) rfl)
    hbs Kp.trans (fun W l o o' hl ho hc _ => ⟨belowK_b (w := w) (Nat.le_refl _) W l o o' (by simp at hl; omega) ho hc (by assumption), (World.putObj_heap_other (by simp at hl; omega))⟩) (Below.refl _ _) (fun _ => rfl)
    (IB w (w.heap.size + 1) (w.heap.size + 1 + 1) zs) (fun _ _ _ => False) ?own (fun _ _ _ _ _ hs _ _ => hs) hIB
    (fun x => { tmps := #[.slice a zs.length cap, undef, .slice none 0 0, .pointer (some ⟨w.heap.size + 1, 0, none⟩), undef, .int .i64 (bk zs x).2, .slice a zs.length cap, .int .i64 zs.length, .slice (some ⟨w.heap.size, 0, none⟩) 0 zs.length, .slice a zs.length cap,
      .func (.func 44) #[] #[.pointer (some ⟨w.heap.size + 1 + 1, 0, none⟩)], .int .i64 (bk zs x).1, .int .i64 (bk zs x).2, undef, undef, undef, undef, undef, undef], defers := [] }) ?assign ?body ?done ?stop
  case own =>
    rintro s W W' row ⟨k1, k2, k3, k4, k5, ad, cp, k6, k7⟩ hg hr
    refine ⟨k1.trans ⟨hg.os, hg.tape, hg.output, hg.size, fun k hk => hg.block k (by have := k1.size; omega) (fun e => by have := (hr _ e.symm).1; simp at this; omega)⟩, k2, k3, Nat.lt_of_lt_of_le k4 hg.size,
      (frozen_kept k6 hg (fun r e => (hr r e).2)).trans k5, ad, cp, cell_kept k6 hg (fun r e => (hr r e).2), k7.grown hg (fun r e => (hr r e).2)⟩
  case assign =>
    intro l x W K hK
    gi_wp2
    exact hK
  case body =>
    rintro l pre x W hIBW hpl
    obtain ⟨k1, k2, k3, k4, k5, ad, cp, k6, k7⟩ := hIBW
    have hbx := bk_small hr x
    have hn11 : 1 ≤ n - 1 - 1 := by omega
    gi_wp2_with (gi_at_call 32; refine (CallsIn.inRound l (callsIn_wide.2 (push_priv k7 (by omega) (by omega) k4 (-(bk zs x).2) (by omega) (by have := pushL_len (pre.map fun j => -(bk zs j).2) []; simp at this; omega) 3))).mono ?_; rintro e W3 ⟨c', rfl, p1, p2, p3, p4, p5⟩; obtain ⟨ad2, cp2, rfl⟩ := p1.slice; have hc3 := (cell_heap p4 0).trans k6; have hf3 := (frozen_heap p4 0).trans k5)
    have hvs : pushL [] ((pre ++ [x]).map fun j => -(bk zs j).2) = push1 (pushL [] (pre.map fun j => -(bk zs j).2)) (-(bk zs x).2) := by
      simp only [List.map_append, List.map_cons, List.map_nil, pushL, List.foldl_append, List.foldl_cons, List.foldl_nil]
    have hpa : Below w.heap.size W3 (W3.setCell ⟨w.heap.size + 1, 0, none⟩ (.slice (some ad2) (push1 (pushL [] (pre.map fun j => -(bk zs j).2)) (-(bk zs x).2)).length cp2)) :=
      (Below.refl _ W3).setCell (p := ⟨w.heap.size + 1, 0, none⟩) (Nat.le_succ _) _
    refine ⟨p2.trans (KeepsOthers.setCell _ _ _), ⟨p3.trans hpa, (Below.heap_setCell W3 _ _ _ (by simp)).trans p5⟩, k1.trans (p3.trans hpa), k2, k3, Nat.lt_of_lt_of_le k4 (Nat.le_trans p2.size hpa.size), by rw [World.frozen?_setCell]; exact hf3, ad2, cp2, ?_, ?_⟩
    · rw [hvs]
      exact World.cell?_setCell_same' _ _ _ (by rw [hc3]; rfl)
    · rw [hvs]
      obtain ⟨β, h, s, R, q1, q2, q3⟩ := p1
      exact ⟨β, h, s, rep_set R (fun id L hL => (q2 id L hL).2.1), q1, q2, q3⟩
  case done =>
    rintro D ys W hD rfl ⟨k1, k2, k3, k4, k5, ad, cp, k6, k7⟩ hK
    gi_wp2
    refine ⟨by simp, .inl ⟨_, _, rfl, run_takeDeferred hK, ?_⟩⟩
    refine ⟨_, results_tmp rfl _ _ _, _, rfl, k1.trans (belowK_b (w := w) (Nat.le_refl _) W D _ _ (by simp at hD; omega) hK rfl rfl), w.heap.size + 1, w.heap.size + 1 + 1, ?_⟩
    have hg := k7.grown (grownBy_putObj' W D (.deferred none)) (fun r e => by cases e; exact ⟨_, hK, rfl⟩)
    have hv : pushL [] ((List.range zs.length).map fun j => -(bk zs j).2) = invL zs := by rw [invL, inv_list]
    rw [hv] at hg ⊢
    exact hg
  case stop =>
    rintro D c pre W _ _ h _
    exact h.elim
end Go.Proofs.YtgmfjhmphiiifaaDoor
