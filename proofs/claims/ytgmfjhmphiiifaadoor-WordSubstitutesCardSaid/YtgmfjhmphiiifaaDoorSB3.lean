/- Substitute at the model: what is kept while it runs; push keeps it. -/
import Derived.Test.YtgmfjhmphiiifaaDoorSB2
import Derived.Test.YtgmfjhmphiiifaaDoorB1
namespace Go.Proofs.YtgmfjhmphiiifaaDoor
open Go.RowKit Go.Shelf Go.Ab
set_option linter.unusedVariables false
set_option linter.unusedSectionVars false
attribute [local go_sem] Oper.semAt_some

section
variable [Base]
/-- A memory that is only read. -/
structure RM (βR : Bt) (hR : Heap) (w : World) : Prop where
  rep : Rep βR hR w
  out : ∀ id, hR.length ≤ id → βR id = none
  ro : ∀ (id : Nat) cs rw (z : ESz), hR[id]? = some (.cells cs rw z) → rw = false ∧ z.n < 1000000
theorem RM.later {βR : Bt} {hR : Heap} {w W : World} (r : RM βR hR w) (hb : Below w.heap.size w W) : RM βR hR W := ⟨rep_later r.rep (fun b h => hb.block b h), r.out, r.ro⟩
/-- A row of numbers laid behind. -/
theorem rep_one {β : Bt} {h : Heap} {W : World} {L : Ab.Loc} {vs : List Int} {rw' : Bool} (R : Rep β h W) (hf : β h.length = none) (eL : L.esz = 1) (ho : rw' = true → Base.B ≤ L.b) {ccs : Array Value} {e : TypeId} (k2 : W.heap[L.b]? = some (.cells ccs e (0, 0))) (k3 : ccs.size = L.sz) (k4 : L.base + vs.length ≤ L.sz)
    (k5 : ∀ (j : Nat) (y : Int), vs[j]? = some y → ccs[L.base + j]? = some (.int .i64 y)) (hne : ∀ (id : Nat) (M : Ab.Loc) cs rw z, h[id]? = some (.cells cs rw z) → β id = some M → (rw = true ∨ rw' = true) → M.b ≠ L.b) : Rep (upd β h.length L) (h ++ [.cells (ints vs) rw' 1]) W := by
  have lt : ∀ (i : Nat) (x : Blk), h[i]? = some x → i < h.length := fun i x hx => (List.getElem?_eq_some_iff.1 hx).1
  have hold : ∀ i, i < h.length → upd β h.length L i = β i := fun i hi => upd_other _ _ (by omega)
  have hle := upd_le (β := β) L hf
  refine ⟨fun i b M hg hM => ?_, fun i M cs' rw2 esz' hg hM => ?_, fun i j M1 M2 cs1 e1 cs2 rw2 e2 hi hj hne2 hL hM => ?_, R.keep⟩
  · rw [get_snoc] at hg
    split at hg
    · rename_i hi; subst hi; rw [upd_same] at hM; simp at hM hg; subst hM hg; exact eL
    · rw [hold i (lt _ _ hg)] at hM
      exact R.sz i b M hg hM
  · rw [get_snoc] at hg
    split at hg
    · rename_i hi; subst hi; rw [upd_same] at hM
      simp only [Option.some.injEq, Blk.cells.injEq] at hM hg
      obtain ⟨rfl, rfl, rfl⟩ := hg
      subst hM
      refine .inl ⟨by decide, eL, ccs, e, (0, 0), k2, k3, by simpa [ints] using k4, fun j x hx => ?_, fun _ => rfl, fun t ht => (by cases ht), fun t ht => (by cases ht), ho⟩
      simp only [ints, List.getElem?_map, Option.map_eq_some_iff] at hx
      obtain ⟨y, hy, rfl⟩ := hx
      exact ⟨_, k5 j y hy, .int _ _⟩
    · rw [hold i (lt _ _ hg)] at hM
      exact (R.blk i M cs' rw2 esz' hg hM).mono hle rfl
  · rw [get_snoc] at hi hj
    split at hi
    · rename_i hii
      rw [if_neg (by omega)] at hj
      subst hii
      rw [upd_same] at hL
      simp only [Option.some.injEq, Blk.cells.injEq] at hL hi
      subst hL
      rw [hold j (lt _ _ hj)] at hM
      exact (hne j M2 cs2 rw2 e2 hj hM (.inr hi.2.1)).symm
    · rw [hold i (lt _ _ hi)] at hL
      split at hj
      · rename_i hjj
        subst hjj
        rw [upd_same] at hM
        simp only [Option.some.injEq] at hM
        subst hM
        exact hne i M1 cs1 true e1 hi hL (.inl rfl)
      · rw [hold j (lt _ _ hj)] at hM
        exact R.exc i j M1 M2 cs1 e1 cs2 rw2 e2 hi hj hne2 hL hM
/-- The word so far, in a row of its own. -/
def PS (n₀ : Nat) (X : Nat → Prop) (ls : List Int) (c : Value) (W : World) : Prop :=
  (ls = [] ∧ c = .slice none 0 0) ∨ ls ≠ [] ∧ ∃ (L : Ab.Loc) (ccs : Array Value) (e : TypeId) (ad : Addr) (cp : Nat), L.esz = 1 ∧ n₀ ≤ L.b ∧ ¬ X L.b ∧ W.heap[L.b]? = some (.cells ccs e (0, 0)) ∧ ccs.size = L.sz ∧ L.base + (pushL [] ls).length ≤ L.sz ∧
    (∀ (j : Nat) (y : Int), (pushL [] ls)[j]? = some y → ccs[L.base + j]? = some (.int .i64 y)) ∧ c = .slice (some ad) (pushL [] ls).length cp ∧ (pushL [] ls).length ≤ cp ∧ (0 < cp → ad = ⟨L.b, L.base, none⟩) ∧ (0 < cp → L.base + cp ≤ L.sz)
theorem PS.slice {n₀ : Nat} {X : Nat → Prop} {vs : List Int} {c : Value} {W : World} (p : PS n₀ X vs c W) : ∃ ad cap, c = .slice ad (pushL [] vs).length cap := by
  rcases p with ⟨rfl, rfl⟩ | ⟨-, L, ccs, e, ad, cp, -, -, -, -, -, -, -, h, -⟩
  · exact ⟨none, 0, rfl⟩
  · exact ⟨some ad, cp, h⟩
/-- Nothing but what is no cells, or the box, has turned. -/
theorem PS.turn {n₀ : Nat} {X Y : Nat → Prop} {vs : List Int} {c : Value} {W : World} (p : PS n₀ X vs c W) (h : ∀ b, b < W.heap.size → ¬ X b → ¬ Y b) : PS n₀ Y vs c W := by
  rcases p with h1 | ⟨h0, L, ccs, e, ad, cp, h1, h2, h3, h4, h5⟩
  · exact .inl h1
  · exact .inr ⟨h0, L, ccs, e, ad, cp, h1, h2, h _ (Array.getElem?_eq_some_iff.1 h4).1 h3, h4, h5⟩
theorem PS.kept {n₀ : Nat} {X : Nat → Prop} {vs : List Int} {c : Value} {W W' : World} (p : PS n₀ X vs c W) (h : ∀ (b : Nat) ccs e fz, ¬ X b → W.heap[b]? = some (.cells ccs e fz) → W'.heap[b]? = some (.cells ccs e fz)) : PS n₀ X vs c W' := by
  rcases p with h1 | ⟨h0, L, ccs, e, ad, cp, h1, h2, h3, h4, h5⟩
  · exact .inl h1
  · exact .inr ⟨h0, L, ccs, e, ad, cp, h1, h2, h3, h _ _ _ _ h3 h4, h5⟩
theorem stp_keepsB {β β' : Bt} {h h' : Heap} {W W' : World} (R : Rep β h W) (S : Stp β h W β' h' W') (hodd : ∀ (id : Nat) cs rw (z : ESz), h[id]? = some (.cells cs rw z) → z.n < 1000000) : KeepsOthers W W' :=
  ⟨S.size, fun k o hk ho => by
    rw [← hk]
    refine S.frame k (Array.getElem?_eq_some_iff.1 hk).1 ?_
    rintro ⟨id, L, cs, esz, h1, h2, rfl⟩
    obtain ⟨-, ccs, e', fz, h3, -⟩ := (R.blk _ _ _ _ _ h1 h2).cell (by rw [R.sz id _ L h1 h2]; exact hodd id cs true esz h1)
    rw [h3] at hk
    cases hk
    simp [Obj.isCells] at ho⟩
/-- push, of a slice that lies in the memory that is only read. -/
theorem PS.push {FT : FuncId → Option AFun} {HK : FuncId → Option Hook} (ft : FTok Tryd.prog FT) (hk : HKok Tryd.prog HK)
    (c32 : ∀ (h0 h1 : Heap) (s l : SV) (vs ls : List Int), Ab.Own h0 h1 s (ints vs) → Ext h0 h1 → IsInts h1 l ls → Apart s l → vs.length + ls.length ≤ 1000000000 → (∀ x ∈ ls, -4611686018427387904 ≤ x ∧ x ≤ 4611686018427387904) → ∃ v h', Cal FT HK 32 [.sc s, .sc l] h1 v h' ∧ ∃ s', v = .sc s' ∧ Ab.Own h0 h' s' (ints (pushL vs ls)) ∧ Ext h0 h' ∧ Fram h1 h' s s' ∧ (s ≠ .nilS ∨ ls ≠ [] → s' ≠ .nilS) ∧ (ls = [] → s' = s))
    {βR : Bt} {hR : Heap} {W0 W : World} {n₀ : Nat} {X : Nat → Prop} {ks ys : List Int} {c v : Value} {t : SV} (rm : RM βR hR W) (hn : n₀ ≤ W0.heap.size) (hB : Base.B ≤ n₀) (hW : Below W0.heap.size W0 W) (hX : ∀ b, X b → b < W.heap.size)
    (hlow : ∀ (id : Nat) (M : Ab.Loc) cs rw z, hR[id]? = some (.cells cs rw z) → βR id = some M → M.b < n₀ ∨ W0.heap.size ≤ M.b) (hp : PS n₀ X ks c W0) (ht : IsInts hR t ys) (hv : SRel βR t v) (hl : (pushL [] ks).length + ys.length ≤ 1000000000) (hr : ∀ x ∈ ys, -4611686018427387904 ≤ x ∧ x ≤ 4611686018427387904) :
    Calls Tryd.prog 32 #[c, v] W fun en W' => ∃ c', en = .returned c' ∧ PS n₀ X (ks ++ ys) c' W' ∧ KeepsOthers W W' ∧ Below n₀ W W' ∧ ∀ b, X b → W'.heap[b]? = W.heap[b]? := by
  -- one memory: the rows, and the word
  have happ : pushL [] (ks ++ ys) = pushL (pushL [] ks) ys := by simp [pushL]
  have hvs : ∃ vs, vs = pushL [] ks := ⟨_, rfl⟩
  obtain ⟨vs, hvs⟩ := hvs
  rw [← hvs] at hl happ
  obtain ⟨β, h, s, R, hle, hx, hout, hown, hs, hnil, hO, hodd⟩ : ∃ (β : Bt) (h : Heap) (s : SV), Rep β h W ∧ βR.le β ∧ Ext hR h ∧ (∀ id, h.length ≤ id → β id = none) ∧ Ab.Own hR h s (ints vs) ∧ SRel β s c ∧ (s = .nilS ↔ ks = []) ∧
      (∀ (id : Nat) (L : Ab.Loc) cs z, h[id]? = some (.cells cs true z) → β id = some L → n₀ ≤ L.b ∧ ¬ X L.b) ∧ ∀ (id : Nat) cs rw (z : ESz), h[id]? = some (.cells cs rw z) → z.n < 1000000 := by
    rcases hp with ⟨rfl, rfl⟩ | ⟨q0, L, ccs, e, ad, cp, q1, q2, q3, q4, q5, q6, q7, rfl, q8, q9, q10⟩
    · subst hvs
      exact ⟨βR, hR, .nilS, rm.rep, fun _ _ h => h, Ext.refl _, rm.out, .inl ⟨rfl, rfl⟩, .nilS, by simp, fun id L cs z h1 h2 => (by have := (rm.ro id cs true z h1).1; cases this), fun id cs rw z h1 => (rm.ro id cs rw z h1).2⟩
    · rw [← hvs] at q6 q7 q8 ⊢
      have hLlt : L.b < W0.heap.size := (Array.getElem?_eq_some_iff.1 q4).1
      have q4' : W.heap[L.b]? = some (.cells ccs e (0, 0)) := (hW.block _ hLlt).trans q4
      have R1 := rep_one (vs := vs) (rw' := true) rm.rep (rm.out _ (Nat.le_refl _)) q1 (fun _ => Nat.le_trans hB q2) q4' q5 q6 q7 fun id M cs rw z h1 h2 _ h3 => by
        have := hlow id M cs rw z h1 h2
        omega
      refine ⟨_, _, .slc hR.length 0 vs.length none, R1, upd_le _ (rm.out _ (Nat.le_refl _)), ⟨_, rfl⟩, fun id hid => ?_, .inr ⟨hR.length, none, ints vs, by simp [ints], Nat.le_refl _, by simp, List.take_of_length_le (by simp [ints]), by simp [ints, Room]⟩, ?_, by simp [q0], fun id M cs z h1 h2 => ?_, fun id cs rw z h1 => ?_⟩
      · simp at hid
        rw [upd_other _ _ (by omega)]; exact rm.out _ (by omega)
      · exact .slc (L := L) (upd_same _ _ _) (fun k hk => by cases hk) q8 (fun h => by rw [Nat.add_zero]; exact q9 h) (fun h => by rw [q1]; exact ⟨by decide, by have := q10 h; show L.base + 0 + cp * 1 ≤ L.sz; omega⟩) (by rw [q1]; decide)
      · rw [get_snoc] at h1
        split at h1
        · rename_i hi; subst hi; rw [upd_same] at h2; simp at h2; subst h2; exact ⟨q2, q3⟩
        · have := (rm.ro id cs true z h1).1; cases this
      · rw [get_snoc] at h1
        split at h1
        · simp at h1; rw [← h1.2.2]; decide
        · exact (rm.ro id cs rw z h1).2
  have ht' : IsInts h t ys := IsSl.ext ht hx
  have hap : Apart s t := apart_old hown ht
  obtain ⟨v', h', ⟨N, hN⟩, s', rfl, o1, o2, o3, o4, o5⟩ := c32 hR h s t vs ys hown hx ht' hap hl hr
  have hf : fresh β h h' := fun id k1 _ => hout id k1
  refine ((call_ok ft hk N).run 32 _ _ _ _ (hN N (Nat.le_refl _)) β W [c, v] (.cons (.sc hs) (.cons (.sc (hv.mono hle)) .nil)) R hf).mono ?_
  rintro en W' ⟨β', c', rfl, hc, S, R'⟩
  have hBel : Below n₀ W W' := ⟨S.os, S.tape, S.output, S.size, fun k hk => S.frame k (by have := hW.size; omega) (by
    rintro ⟨id, L, cs, esz, h1, h2, rfl⟩
    have := (hO _ _ _ _ h1 h2).1
    omega)⟩
  refine ⟨_, rfl, ?_, stp_keepsB R S hodd, hBel, fun b hb => S.frame b (hX b hb) (by
    rintro ⟨id, L, cs, esz, h1, h2, h3⟩
    exact (hO _ _ _ _ h1 h2).2 (h3 ▸ hb))⟩
  cases hc with
  | sc hc =>
    rcases o1 with ⟨rfl, e0⟩ | ⟨id, cap2, cs2, rfl, q1, q2, q3, q4⟩
    · cases hc
      have hk0 : ks = [] := hnil.1 (Classical.byContradiction fun hn => o4 (.inl hn) rfl)
      have hy0 : ys = [] := Classical.byContradiction fun hn => o4 (.inr hn) rfl
      exact .inl ⟨by rw [hk0, hy0]; rfl, rfl⟩
    · cases hc with
      | slc hL2 hc2 hl2 ho2 hb2 hn2 =>
        rename_i L2 c2 ad
        obtain ⟨k1, ccs, e', fz, k2, k3, k4, k5, k6, -, -, k7⟩ := (R'.blk _ _ _ _ _ q2 hL2).cell hn2
        have kf := k6 rfl
        subst kf
        have hll : (ints (pushL vs ys)).length = (pushL vs ys).length := by simp [ints]
        have hsep : n₀ ≤ L2.b ∧ ¬ X L2.b := by
          have hown2 : owned β' h' L2.b := ⟨id, L2, cs2, 1, q2, hL2, rfl⟩
          rcases S.own _ hown2 with h1 | ⟨id3, M, cs3, z3, h1, h2, h3⟩
          · have := hW.size; exact ⟨by omega, fun hx => by have := hX _ hx; omega⟩
          · rw [← h3]; exact hO _ _ _ _ h1 h2
        have hlen2 : (ints (pushL vs ys)).length ≤ cs2.length := by
          have := congrArg List.length q3
          simp only [List.length_take] at this
          omega
        rw [hll] at hl2 hlen2
        have hne2 : ks ++ ys ≠ [] := fun e => by
          obtain ⟨e1, e2⟩ := List.append_eq_nil_iff.1 e
          have := o5 e2
          rw [hnil.2 e1] at this
          cases this
        unfold PS
        rw [happ]
        refine .inr ⟨hne2, L2, ccs, e', ad, c2, k1, hsep.1, hsep.2, k2, k3, by omega, fun j y hy => ?_, by rw [hll], hl2, fun h => by have := ho2 h; rwa [Nat.add_zero] at this, fun h => ?_⟩
        · have h5 : (ints (pushL vs ys))[j]? = some (.int .i64 y) := by simp [ints, hy]
          rw [← q3, List.getElem?_take] at h5
          split at h5
          · obtain ⟨x, m1, m2⟩ := k5 j _ h5
            cases m2
            exact m1
          · cases h5
        · have := (hb2 h).2
          rw [k1] at this
          have e1 : ((1 : ESz).n) = 1 := rfl
          rw [e1] at this
          omega
end
end Go.Proofs.YtgmfjhmphiiifaaDoor
