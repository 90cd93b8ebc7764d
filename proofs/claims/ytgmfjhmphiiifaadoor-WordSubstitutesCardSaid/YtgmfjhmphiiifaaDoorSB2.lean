/- Substitute at the model: the arguments laid once more; what is kept while it runs. -/
import Derived.Test.YtgmfjhmphiiifaaDoorSAR
import Derived.WalkKit
namespace Go.Proofs.YtgmfjhmphiiifaaDoor
open Go.Ab Go.RowKit
set_option linter.unusedVariables false
set_option linter.unusedSimpArgs false
set_option linter.unusedSectionVars false

theorem add_at (b o i : Nat) : Addr.add ⟨b, o, none⟩ i = ⟨b, o + i, none⟩ := by
  unfold Addr.add
  split
  · rename_i h0; subst h0; rfl
  · rfl
theorem csok_ints (w : World) : ∀ (ys : List Int), (∀ y ∈ ys, (Lit.int .i64 y).wf = true) → CsOK w (RL RInt ys) (ys.map (Value.int .i64))
  | [], _ => CsOK.nil
  | y :: ys, h => by
    have := (CsOK.int (w := w) .i64 y).app (csok_ints w ys fun z hz => h z (.tail _ hz))
    exact this.mono fun H ss ⟨l1, l2, e, a, b⟩ => ⟨l1, l2, e, ⟨a, h y (.head _)⟩, b⟩
section
variable [Base]
/-- A slice of length 0, whatever lies under it. -/
theorem csok_dead {w : World} {δ : Type} {R : δ → Heap → List SV → Prop} {ad : Addr} {c b o : Nat} (h : 0 < c → ad = ⟨b, o, none⟩) : CsOK w (fun h ss => ∃ s l, ss = [s] ∧ IsSl h s ⟨1, none⟩ 0 l ∧ RL R [] h l) [.slice (some ad) 0 c] := by
  refine ⟨[⟨b, o, o + c, ⟨1, none⟩⟩], fun _ => [.dead ⟨1, none⟩], fun k => [.slc k 0 0 none], fun k => ⟨rfl, fun β hβ => ⟨.cons (.slc (L := ⟨b, o, o + c, ⟨1, none⟩⟩) (hβ 0 _ rfl) (fun k hk => by cases hk) (Nat.zero_le _) h (fun _ => ⟨Nat.le_refl 1, ?_⟩) ?_) .nil, fun i L bb hL hb => ?_⟩, fun h hh => ⟨_, [], rfl, .inr ⟨k, 0, none, .dead ⟨1, none⟩, rfl, hh 0 _ rfl, rfl, fun _ => rfl, fun h => by omega⟩, rfl⟩⟩⟩
  · show o + 0 + c * 1 ≤ o + c
    omega
  · show 1 < 1000000
    decide
  · cases i with
    | zero =>
      simp at hL hb
      subst hL hb
      exact ⟨rfl, ⟨rfl, by show 1 < 1000000; decide⟩, fun cs rw e h => by cases h⟩
    | succ i => simp at hL
/-- A slice in the memory that is known is one that came in. -/
theorem csok_sl {β : Bt} {h : Heap} {w : World} {s : SV} {v : Value} {ts : List SV} {n : Nat} {δ : Type} {RR : δ → Heap → List SV → Prop} {ds : List δ} (R : Rep β h w) (hx : SRel β s v) (hs : IsSl h s 1 n ts) (hn : ts.length = n) (hd : ds.length = n)
    (hel : ∀ vs : List Value, F2 (SRel β) ts vs → CsOK w (RL RR ds) vs) : CsOK w (fun h ss => ∃ s l, ss = [s] ∧ IsSl h s ⟨1, none⟩ ds.length l ∧ RL RR ds h l) [v] := by
  subst hn
  rcases hs with ⟨rfl, h1, h2⟩ | ⟨id, off, cap, b, rfl, h1, h2, h3, h4⟩
  · have : ds = [] := List.eq_nil_of_length_eq_zero (by omega)
    subst this
    cases hx
    exact (CsOK.slc0 ⟨1, none⟩).mono fun H ss ⟨s, l, e1, e2, e3⟩ => ⟨s, l, e1, e2, e3⟩
  · cases hx with
    | slc hL hc hlc ho hb hn =>
      rename_i L c ad
      by_cases h0 : 0 < ts.length
      · obtain ⟨cs, rw', e2, hcut⟩ := h4 h0
        subst e2
        obtain ⟨e0, ccs, e, fz, k1, k2, k3, k4, -⟩ := (R.blk id L cs rw' 1 h1 hL).cell hn
        have eL : L.esz.n = 1 := by rw [e0]; rfl
        have hbb := hb (by omega)
        rw [eL] at hbb
        have had := ho (by omega)
        subst had
        have hcell : ∀ i, i < c * 1 → ∃ x, w.cell? (Addr.add ⟨L.b, L.base + off, none⟩ i) = some x := fun i hi => by
          have hlt : L.base + off + i < ccs.size := by omega
          refine ⟨ccs[L.base + off + i], ?_⟩
          rw [add_at]
          simp [World.cell?, k1, hlt]
        have hrd : readN h id off ts.length = some ts := by
          unfold readN
          rw [h1]
          have e1 : ts.length * ESz.n 1 = ts.length := by show ts.length * 1 = _; omega
          rw [e1] at hcut
          exact hcut
        obtain ⟨us, u1, u2, u3⟩ := read_cells R hL hn hrd
        have := CsOK.slc (z := ⟨1, none⟩) ⟨rfl, by decide⟩ (by decide) hlc hcell (by show us.length = ts.length * 1; omega) (fun i x hi => by rw [add_at]; exact u3 i x hi) (hel us u1)
        exact this.mono fun H ss ⟨s, l, q1, q2, q3⟩ => ⟨s, l, q1, by rw [hd]; exact q2, q3⟩
      · have e1 : ts.length = 0 := by omega
        have : ds = [] := List.eq_nil_of_length_eq_zero (by omega)
        subst this
        rw [e1]
        exact csok_dead ho
theorem f2_ints {β : Bt} : ∀ {ys : List Int} {vs : List Value}, F2 (SRel β) (ys.map (.int .i64)) vs → vs = ys.map (Value.int .i64)
  | [], _, .nil => rfl
  | y :: ys, _, .cons a b => by cases a; rw [f2_ints b]; rfl
theorem csok_of {β : Bt} {h : Heap} {w : World} {s : SV} {v : Value} {ys : List Int} (R : Rep β h w) (hx : SRel β s v) (hs : IsInts h s ys) (hw : ∀ y ∈ ys, (Lit.int .i64 y).wf = true) : CsOK w (RIs ys) [v] :=
  csok_sl R hx hs (by simp) rfl fun vs hv => by rw [f2_ints hv]; exact csok_ints w ys hw
theorem csok_rows {β : Bt} {h : Heap} {w : World} (R : Rep β h w) : ∀ {ts : List SV} {vs : List Value} {ws : List (List Int)}, F2 (SRel β) ts vs → ts.length = ws.length → (∀ (i : Nat) (t : SV) (ys : List Int), ts[i]? = some t → ws[i]? = some ys → IsInts h t ys ∧ ∀ y ∈ ys, (Lit.int .i64 y).wf = true) → CsOK w (RL RIs ws) vs
  | [], [], [], .nil, _, _ => CsOK.nil
  | t :: ts, v :: vs, ys :: ws, .cons a b, hl, hall => by
    obtain ⟨h1, h3⟩ := hall 0 t ys rfl rfl
    have h4 := csok_rows R b (by simpa using hl) fun i t ys h5 h6 => hall (i + 1) t ys (by simpa using h5) (by simpa using h6)
    exact ((csok_of R a h1 h3).app h4).mono fun H ss e => e
  | [], [], _ :: _, .nil, hl, _ => by simp at hl
  | _ :: _, _ :: _, [], .cons _ _, hl, _ => by simp at hl
end
end Go.Proofs.YtgmfjhmphiiifaaDoor
