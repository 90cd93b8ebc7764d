/- Inverse at the model: it ranges over slices.Backward. -/
import Derived.Test.YtgmfjhmphiiifaaDoorB1
namespace Go.Proofs.YtgmfjhmphiiifaaDoor
open Go.RowKit Go.Shelf Go.Ab
set_option linter.unusedVariables false
attribute [local go_sem] Oper.semAt_some

theorem rep_grown {β : Bt} {h : Heap} {W W' : World} {row : Option Nat} (R : Rep β h W) (hg : W.grownBy W' row) (hr : ∀ r, row = some r → ∃ o : Obj, W.heap[r]? = some o ∧ o.isCells = false) : Rep β h W' :=
  ⟨R.sz, fun id L cs rw esz hx hL => by
    have B := R.blk id L cs rw esz hx hL
    refine B.mono (fun _ _ h => h) (hg.block _ B.lt ?_)
    intro e
    obtain ⟨o, h1, h2⟩ := hr _ e.symm
    obtain ⟨-, ccs, e', fz, h3, -⟩ := B
    rw [h3] at h1
    cases h1
    simp [Obj.isCells] at h2, R.exc⟩

theorem rep_set {β : Bt} {h : Heap} {W : World} {a : Addr} {v : Value} (R : Rep β h W) (hne : ∀ id L, β id = some L → L.b ≠ a.block) : Rep β h (W.setCell a v) :=
  ⟨R.sz, fun id L cs rw esz hx hL => (R.blk id L cs rw esz hx hL).mono (fun _ _ h => h) (Below.heap_setCell W a v _ (hne _ _ hL)), R.exc⟩

theorem stp_keeps {β β' : Bt} {h h' : Heap} {W W' : World} (R : Rep β h W) (S : Stp β h W β' h' W') : KeepsOthers W W' :=
  ⟨S.size, fun k o hk ho => by
    rw [← hk]
    refine S.frame k (Array.getElem?_eq_some_iff.1 hk).1 ?_
    rintro ⟨id, L, cs, esz, h1, h2, rfl⟩
    obtain ⟨-, ccs, e', fz, h3, -⟩ := R.blk _ _ _ _ _ h1 h2
    rw [h3] at hk
    cases hk
    simp [Obj.isCells] at ho⟩

theorem stp_below {β β' : Bt} {h h' : Heap} {W W' : World} {n : Nat} (hn : n ≤ W.heap.size) (S : Stp β h W β' h' W') (ho : ∀ id L, β id = some L → n ≤ L.b) : Below n W W' :=
  ⟨S.os, S.tape, S.output, S.size, fun k hk => S.frame k (by omega) (by
    rintro ⟨id, L, cs, esz, h1, h2, rfl⟩
    have := ho _ _ h2
    omega)⟩

def invL (zs : List Int) : List Int := pushL [] (zs.reverse.map (- ·))

/-- What lies privately: a word of one's own. -/
def Priv (n₀ cb Bs : Nat) (vs : List Int) (c : Value) (W : World) : Prop :=
  ∃ β h s, Rep β h W ∧ (∀ id, h.length ≤ id → β id = none) ∧ (∀ id L, β id = some L → n₀ ≤ L.b ∧ L.b ≠ cb ∧ L.b ≠ Bs) ∧ Ab.Own [] h s (ints vs) ∧ s ≠ .nilS ∧ SRel β s c

theorem Priv.grown {n₀ cb Bs : Nat} {vs : List Int} {c : Value} {W W' : World} {row : Option Nat} (hp : Priv n₀ cb Bs vs c W) (hg : W.grownBy W' row) (hr : ∀ r, row = some r → ∃ o : Obj, W.heap[r]? = some o ∧ o.isCells = false) : Priv n₀ cb Bs vs c W' := by
  obtain ⟨β, h, s, R, h1, h2, h3, h4, h5⟩ := hp
  exact ⟨β, h, s, rep_grown R hg hr, h1, h2, h3, h4, h5⟩

theorem Priv.slice {n₀ cb Bs : Nat} {vs : List Int} {c : Value} {W : World} (hp : Priv n₀ cb Bs vs c W) : ∃ ad cap, c = .slice (some ad) vs.length cap := by
  obtain ⟨β, h, s, R, h1, h2, h3, h4, h5⟩ := hp
  rcases h3 with ⟨rfl, _⟩ | ⟨id, cap, cs, rfl, _⟩
  · exact absurd rfl h4
  · cases h5
    rename_i L c ad _ _ _ _ _
    exact ⟨ad, c, by simp⟩

theorem push_priv {n₀ cb Bs : Nat} {vs : List Int} {c : Value} {W : World} (hp : Priv n₀ cb Bs vs c W) (hn : n₀ ≤ W.heap.size) (hcb : cb < W.heap.size) (hBs : Bs < W.heap.size) (x : Int) (hx : -4611686018427387904 ≤ x ∧ x ≤ 4611686018427387904) (hl : vs.length ≤ 1000000) (e : TypeId) :
    Calls Tryd.prog 32 #[c, .slice (some ⟨W.heap.size, 0, none⟩) 1 1] (W.alloc (.cells #[.int .i64 x] e)) fun en W' => ∃ c', en = .returned c' ∧ Priv n₀ cb Bs (push1 vs x) c' W' ∧ KeepsOthers W W' ∧ Below n₀ W W' ∧ W'.heap[cb]? = W.heap[cb]? ∧ W'.heap[Bs]? = W.heap[Bs]? := by
  obtain ⟨β, h, s, R, h1, h2, h3, h4, h5⟩ := hp
  obtain ⟨S1, R1⟩ := alloc_done R (h1 _ (Nat.le_refl _)) #[.int .i64 x] e [.int .i64 x] 1 (fun t ht => by simp at ht) (fun hh => by simp at hh) (by simp) (fun i v hi => by
    cases i with
    | zero => simp at hi; subst hi; exact ⟨_, rfl, .int _ _⟩
    | succ i => simp at hi)
  have hown : Ab.Own h (h ++ [.cells [.int .i64 x] true 1]) (.slc h.length 0 1 (some 1)) [.int .i64 x] :=
    .inr ⟨h.length, some 1, [.int .i64 x], rfl, Nat.le_refl _, by simp, rfl, rfl, Nat.le_refl _⟩
  have hli : IsInts (h ++ [.cells [.int .i64 x] true 1]) (.slc h.length 0 1 (some 1)) [x] := Ab.Own.sl hown
  obtain ⟨v, h', ⟨N, hN⟩, s', rfl, q1, q2, q3, q4⟩ := call32 (HK := HK1) rfl [] (h ++ [.cells [.int .i64 x] true 1]) s (.slc h.length 0 1 (some 1)) vs [x]
    (Ab.Own.ext h3 ((Ext.refl h).app _)) ⟨_, rfl⟩ hli (apart_old hown (Ab.Own.sl h3)).symm (by simp; omega) (by simpa using hx)
  have hf : fresh (upd β h.length ⟨W.heap.size, 0, 1, 1⟩) (h ++ [.cells [.int .i64 x] true 1]) h' := fun id k1 _ => by
    simp at k1
    rw [upd_other _ _ (by omega)]
    exact h1 id (by omega)
  have hb1 : ∀ id L, upd β h.length ⟨W.heap.size, 0, 1, 1⟩ id = some L → n₀ ≤ L.b ∧ L.b ≠ cb ∧ L.b ≠ Bs := fun id L hL => by
    by_cases hi : id = h.length
    · subst hi
      rw [upd_same] at hL
      simp at hL
      subst hL
      exact ⟨hn, by simp; omega, by simp; omega⟩
    · rw [upd_other _ _ hi] at hL
      exact h2 id L hL
  have hle := upd_le (β := β) (⟨W.heap.size, 0, 1, 1⟩ : Ab.Loc) (h1 _ (Nat.le_refl _))
  refine ((call_ok ft_ok HK1_ok N).run 32 _ _ _ _ (hN N (Nat.le_refl _)) (upd β h.length ⟨W.heap.size, 0, 1, 1⟩) (W.alloc (.cells #[.int .i64 x] e)) [c, .slice (some ⟨W.heap.size, 0, none⟩) 1 1]
    (.cons (.sc (h5.mono hle)) (.cons (.sc (.slc (upd_same _ _ _) (fun k hk => by cases hk; rfl) (Nat.le_refl _) (fun _ => rfl) (fun _ => by simp))) .nil)) R1 hf).mono ?_
  rintro en W' ⟨β', c', rfl, hc, S2, R2⟩
  have hb2 : ∀ id L, β' id = some L → n₀ ≤ L.b ∧ L.b ≠ cb ∧ L.b ≠ Bs := fun id L hL => by
    cases hu : upd β h.length ⟨W.heap.size, 0, 1, 1⟩ id with
    | some M =>
      have := S2.ext _ _ hu
      rw [hL] at this
      cases this
      exact hb1 _ _ hu
    | none =>
      rcases S2.new id L hL hu with h6 | ⟨id2, M, cs, esz, k1, k2, k3⟩
      · simp at h6
        exact ⟨by omega, by omega, by omega⟩
      · rw [← k3]
        exact hb1 _ _ k2
  have hrow : ∀ b, b < W.heap.size → (∀ id L, upd β h.length ⟨W.heap.size, 0, 1, 1⟩ id = some L → L.b ≠ b) → W'.heap[b]? = W.heap[b]? := fun b hb hne =>
    (S2.frame b (by simp; omega) (by rintro ⟨id, L, cs, esz, k1, k2, k3⟩; exact hne _ _ k2 k3)).trans (Below.heap_alloc W _ b hb)
  refine ⟨c', rfl, ⟨β', h', s', R2, fun id hid => ?_, hb2, q1, q4 h4, by cases hc; assumption⟩, (KeepsOthers.alloc W _).trans (stp_keeps R1 S2), ?_, hrow cb hcb (fun id L hL => (hb1 id L hL).2.1), hrow Bs hBs (fun id L hL => (hb1 id L hL).2.2)⟩
  · cases hu : β' id with
    | none => rfl
    | some L =>
      rcases S2.dom id L hu with k | ⟨_, k⟩
      · have hlen := S2.len
        simp at hlen
        rw [upd_other _ _ (by omega), h1 id (by omega)] at k
        cases k
      · omega
  · exact ((Below.refl _ W).alloc hn _).trans (stp_below (by simp; omega) S2 (fun id L hL => (hb1 id L hL).1))

end Go.Proofs.YtgmfjhmphiiifaaDoor
