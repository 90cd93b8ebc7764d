/- Substitute at the model: Valid of a letter, push of a letter, the marks at its end. -/
import Derived.Test.YtgmfjhmphiiifaaDoorSB3
import Derived.Lib.JoinLaws
namespace Go.Proofs.YtgmfjhmphiiifaaDoor
open Go.RowKit Go.Shelf Go.Ab
set_option linter.unusedVariables false
attribute [local go_sem] Oper.semAt_some

section
variable [Base]
/-- The letter's row laid behind. -/
theorem rep_letter {βR : Bt} {hR : Heap} {W : World} (rm : RM βR hR W) (x : Int) (e : TypeId) :
    RM (upd βR hR.length ⟨W.heap.size, 0, 1, 1⟩) (hR ++ [.cells (ints [x]) false 1]) (W.alloc (.cells #[.int .i64 x] e)) ∧
    SRel (upd βR hR.length ⟨W.heap.size, 0, 1, 1⟩) (.slc hR.length 0 1 none) (.slice (some ⟨W.heap.size, 0, none⟩) 1 1) ∧ IsInts (hR ++ [.cells (ints [x]) false 1]) (.slc hR.length 0 1 none) [x] ∧
    (∀ (id : Nat) (M : Ab.Loc) cs rw z, hR[id]? = some (.cells cs rw z) → βR id = some M → M.b < W.heap.size) := by
  have hlt : ∀ (id : Nat) (M : Ab.Loc) cs rw z, hR[id]? = some (.cells cs rw z) → βR id = some M → M.b < W.heap.size := fun id M cs rw z h1 h2 => (rm.rep.blk _ _ _ _ _ h1 h2).lt
  have hnew := World.alloc_heap_new W (.cells #[.int .i64 x] e)
  refine ⟨⟨rep_one (rep_later rm.rep (fun b hb => Below.heap_alloc W _ b hb)) (rm.out _ (Nat.le_refl _)) rfl (fun h => by cases h) hnew rfl (by simp) (fun j y hy => ?_) (fun id M cs rw z h1 h2 h3 => ?_), fun id hid => ?_, fun id cs rw z h1 => ?_⟩, ?_, ?_, hlt⟩
  · cases j with
    | zero => simp at hy; subst hy; rfl
    | succ j => simp at hy
  · have := hlt id M cs rw z h1 h2
    show M.b ≠ W.heap.size
    omega
  · simp at hid
    rw [upd_other _ _ (by omega)]
    exact rm.out _ (by omega)
  · rw [get_snoc] at h1
    split at h1
    · simp at h1; exact ⟨h1.2.1, by rw [← h1.2.2]; decide⟩
    · exact rm.ro id cs rw z h1
  · exact .slc (upd_same _ _ _) (fun k hk => by cases hk) (Nat.le_refl _) (fun _ => rfl) (fun _ => ⟨Nat.le_refl 1, Nat.le_refl 1⟩) (by show 1 < 1000000; decide)
  · exact .inr ⟨hR.length, 0, none, .cells (ints [x]) false 1, rfl, by simp, rfl, fun h => by simp at h, fun _ => ⟨_, _, rfl, rfl⟩⟩
/-- Valid of a letter. -/
theorem valid_one {βR : Bt} {hR : Heap} {W : World} (rm : RM βR hR W) (x : Int) (e : TypeId) (m : Nat) (hm : m ≤ 1000000) :
    Calls Tryd.prog 16 #[.slice (some ⟨W.heap.size, 0, none⟩) 1 1, .int .i64 m] (W.alloc (.cells #[.int .i64 x] e)) fun en W' => en = .returned (.bool (decide (Let m x))) ∧ Below W.heap.size W W' := by
  obtain ⟨r1, r2, r3, -⟩ := rep_letter rm x e
  obtain ⟨v', h', ⟨N, hN⟩, rfl, rfl⟩ := call16 (HK := HK1) rfl _ _ [x] m (by omega) (by simp) r3
  have hf : fresh (upd βR hR.length ⟨W.heap.size, 0, 1, 1⟩) (hR ++ [.cells (ints [x]) false 1]) (hR ++ [.cells (ints [x]) false 1]) := fun id k1 k2 => by omega
  refine ((call_ok ft_ok HK1_ok N).run 16 _ _ _ _ (hN N (Nat.le_refl _)) _ _ [_, _] (.cons (.sc r2) (.cons (.sc (.int _ _)) .nil)) r1.rep hf).mono ?_
  rintro en W' ⟨β', c', rfl, hc, S, R'⟩
  have e1 : (∀ y ∈ [x], 1 ≤ (m : Int) ∧ Let m y) ↔ Let m x := by
    constructor
    · intro h; exact (h x (by simp)).2
    · intro h y hy
      simp at hy
      subst hy
      refine ⟨?_, h⟩
      unfold Let at h
      omega
  cases hc with
  | sc hc =>
    cases hc
    refine ⟨by simp only [e1], S.os, S.tape, S.output, ?_, fun k hk => ?_⟩
    · have := S.size
      simp at this
      omega
    · rw [S.frame k (by simp; omega) ?_]
      · exact Below.heap_alloc W _ k hk
      · rintro ⟨id, L, cs, esz, h1, h2, -⟩
        have := (r1.ro id cs true esz h1).1
        cases this
/-- push of a letter. -/
theorem push_letter {βR : Bt} {hR : Heap} {W : World} {n₀ : Nat} {X : Nat → Prop} {vs : List Int} {c : Value} (rm : RM βR hR W) (hn : n₀ ≤ W.heap.size) (hB : Base.B ≤ n₀) (hX : ∀ b, X b → b < W.heap.size)
    (hlow : ∀ (id : Nat) (M : Ab.Loc) cs rw z, hR[id]? = some (.cells cs rw z) → βR id = some M → M.b < n₀) (hp : PS n₀ X vs c W) (x : Int) (hx : -4611686018427387904 ≤ x ∧ x ≤ 4611686018427387904) (hl : (pushL [] vs).length ≤ 100000000) (e : TypeId) :
    Calls Tryd.prog 32 #[c, .slice (some ⟨W.heap.size, 0, none⟩) 1 1] (W.alloc (.cells #[.int .i64 x] e)) fun en W' => ∃ c', en = .returned c' ∧ PS n₀ X (vs ++ [x]) c' W' ∧ KeepsOthers W W' ∧ Below n₀ W W' ∧ ∀ b, X b → W'.heap[b]? = W.heap[b]? := by
  obtain ⟨r1, r2, r3, r4⟩ := rep_letter rm x e
  refine (PS.push ft_ok HK1_ok (fun h0 h1 s l vs ls a b c d e f => call32 rfl h0 h1 s l vs ls a b c d e f) (W0 := W) (X := X) r1 hn hB ((Below.refl _ W).alloc (Nat.le_refl _) _) (fun b hb => by have := hX b hb; simp; omega) (fun id M cs rw z h1 h2 => ?_) hp r3 r2 (by simp; omega) (by simpa using hx)).mono ?_
  · rw [get_snoc] at h1
    split at h1
    · rename_i hi; subst hi; rw [upd_same] at h2; simp at h2; subst h2; exact .inr (Nat.le_refl _)
    · rw [upd_other _ _ (by omega)] at h2
      exact .inl (hlow id M cs rw z h1 h2)
  · rintro en W' ⟨c', rfl, p1, p2, p3, p4⟩
    exact ⟨c', rfl, p1, (KeepsOthers.alloc W _).trans p2, ((Below.refl _ W).alloc hn _).trans p3, fun b hb => (p4 b hb).trans (Below.heap_alloc W _ _ (hX b hb))⟩
end

/-- The marks of the ranges. -/
abbrev mkD (D : Nat) : Deferred := { target := .collected D, args := #[] }
/-- What lay as cells lies so. -/
def Cells (W W' : World) : Prop := ∀ (b : Nat) ccs e fz, W.heap[b]? = some (.cells ccs e fz) → W'.heap[b]? = some (.cells ccs e fz)
theorem leaves_marks {P : Program} {F : Fence} {n n₀ : Nat} {fn : Func} {tmps : Array Value} {R : Ending → World → Prop} {v : Value} (hres : ∀ W, (results fn tmps).run P W = .ok v W) :
    ∀ (Ds : List Nat) (W : World), Ds.Nodup → (∀ D ∈ Ds, n₀ ≤ D ∧ W.heap[D]? = some (.deferred (some []))) → (∀ W', Below n₀ W W' → Cells W W' → R (.returned v) W') → LeavesInM F n P fn tmps R (Ds.map mkD) .returning W
  | [], W, _, _, hR => ⟨v, hres W, hR W (Below.refl _ _) fun _ _ _ _ h => h⟩
  | D :: Ds, W, hn, hD, hR => by
    obtain ⟨h1, h2⟩ := hD D (.head _)
    have hne : ∀ k, k ≠ D → (W.putObj D (.deferred none)).heap[k]? = W.heap[k]? := fun k hk => World.putObj_heap_other (by omega)
    have hlt := (Array.getElem?_eq_some_iff.1 h2).1
    have hb : Below n₀ W (W.putObj D (.deferred none)) := (Below.refl n₀ W).grown (grownBy_putObj' W D (.deferred none)) (by omega) (fun k e => by cases e; exact h1)
    have hc : Cells W (W.putObj D (.deferred none)) := fun b ccs e fz hx => by
      rw [hne b (fun e => by subst e; rw [h2] at hx; cases hx)]; exact hx
    refine ⟨by simp, .inl ⟨D, _, rfl, run_takeDeferred h2, leaves_marks hres Ds _ (List.nodup_cons.1 hn).2 (fun D' hD' => ?_) fun W' b c => hR W' (hb.trans b) fun _ _ _ _ h => c _ _ _ _ (hc _ _ _ _ h)⟩⟩
    obtain ⟨q1, q2⟩ := hD D' (.tail _ hD')
    exact ⟨q1, (hne D' (fun e => by subst e; exact (List.nodup_cons.1 hn).1 hD')).trans q2⟩
end Go.Proofs.YtgmfjhmphiiifaaDoor
