/- From a reckoned answer to a call in the model; slices of integers that came in. -/
import Derived.Test.YtadelcikpkhclaaDoorAb16
import Derived.Below
namespace Go.Ab
set_option linter.unusedVariables false

/-- What is known of the memory of the arguments. -/
structure ArgB (w : World) (L : Loc) (b : Blk) : Prop where
  esz : L.esz = b.esz
  ty : b.esz.ty = none
  cells : ∀ cs rw e, b = .cells cs rw e → rw = false ∧ ∃ ccs e' fz, w.heap[L.b]? = some (.cells ccs e' fz) ∧ ccs.size = L.sz ∧ L.base + cs.length ≤ L.sz ∧
    ∀ (i : Nat) (v : SV), cs[i]? = some v → ∃ c, ccs[L.base + i]? = some c ∧ ∀ β : Bt, SRel β v c

theorem rep_args {w : World} {h : Heap} {Ls : List Loc} (hl : Ls.length = h.length) (hb : ∀ (id : Nat) (L : Loc) (b : Blk), Ls[id]? = some L → h[id]? = some b → ArgB w L b) : Rep (fun id => Ls[id]?) h w := by
  refine ⟨fun id b L hg hL => (hb id L b hL hg).esz, fun id L cs rw esz hg hL => ?_, fun i j L M cs esz cs' rw' esz' hi hj hij hL hM => ?_⟩
  · have hB := hb id L _ hL hg
    obtain ⟨rfl, ccs, e', fz, h1, h2, h3, h4⟩ := hB.cells cs rw esz rfl
    exact ⟨hB.esz, ccs, e', fz, h1, h2, h3, fun i v hv => let ⟨c, q1, q2⟩ := h4 i v hv; ⟨c, q1, q2 _⟩, fun h => by simp at h, (by intro t ht; have h5 : esz.ty = none := hB.ty; rw [h5] at ht; cases ht), (by intro t ht; have h5 : esz.ty = none := hB.ty; rw [ht] at h5; cases h5)⟩
  · obtain ⟨h1, -⟩ := (hb i L _ hL hi).cells cs true esz rfl
    simp at h1

theorem top_below {P : Program} {FT : FuncId → Option AFun} {HK : FuncId → Option Hook} (ok : FTok P FT) (hk : HKok P HK) {m : Nat} {f : FuncId} {args : List AV} {vs : List Value} {h h' : Heap} {w : World} {Ls : List Loc} (hl : Ls.length = h.length)
    (hb : ∀ (id : Nat) (L : Loc) (b : Blk), Ls[id]? = some L → h[id]? = some b → ArgB w L b) (hr : F2 (ARel fun id => Ls[id]?) args vs) (hc : callA FT HK m f args h = some (.sc (.bool true), h')) :
    Calls P f vs.toArray w fun e w' => e = .returned (.bool true) ∧ RowKit.Below w.heap.size w w' := by
  refine ((call_ok ok hk m).run f args h _ h' hc _ w vs hr (rep_args hl hb) ?_).mono ?_
  · intro id h1 h2
    exact List.getElem?_eq_none (by omega)
  · rintro e w' ⟨β', c, rfl, h1, h2, h3⟩
    cases h1 with
    | sc h1 =>
      cases h1
      refine ⟨rfl, ⟨h2.os, h2.tape, h2.output, h2.size, fun k hk => h2.frame k hk ?_⟩⟩
      rintro ⟨id, L, cs, esz, hg, hL, -⟩
      obtain ⟨h4, -⟩ := (hb id L _ hL hg).cells cs true esz rfl
      simp at h4

/-- A slice of integers that came in. -/
def RowI (k : IntKind) (w : World) (a : Option Addr) (len cap : Nat) (zs : List Int) : Prop :=
  (a = none ∧ len = 0 ∧ cap = 0 ∧ zs = []) ∨
  ∃ x, a = some x ∧ len ≤ cap ∧ cap ≤ maxLen ∧ zs.length = cap ∧ (∀ i, i < zs.length → w.cell? (x.add i) = some (.int k (zs.getD i 0))) ∧ ∀ n ∈ zs, (Lit.int k n).wf = true

/-- A slice's value here: n elements of esz cells. -/
def IsSl (h : Heap) (s : SV) (esz : ESz) (n : Nat) (vs : List SV) : Prop :=
  (s = .nilS ∧ n = 0 ∧ vs = []) ∨ ∃ id off cap b, s = .slc id off n cap ∧ h[id]? = some b ∧ b.esz = esz ∧ (n = 0 → vs = []) ∧ (0 < n → ∃ cs rw, b = .cells cs rw esz ∧ cut cs off (n * esz.n) = some vs)

def IsInts (h : Heap) (s : SV) (xs : List Int) : Prop := IsSl h s 1 xs.length (xs.map (.int .i64))

theorem add_spot {w : World} {x : Addr} {v : Value} (h : w.cell? (x.add 0) = some v) : x = ⟨x.block, x.off, none⟩ := by
  have h0 : x.add 0 = x := by simp [Addr.add]
  rw [h0] at h
  unfold World.cell? at h
  split at h
  · split at h
    · simp at h
    · rename_i hs
      cases x
      simp at hs
      simp [hs]
  · simp at h

/-- A slice of integers that came in, as the heap's block number id. -/
theorem arg_ints {w : World} {a : Option Addr} {len cap : Nat} {zs : List Int} (hr : RowI .i64 w a len cap zs) (id : Nat) :
    ∃ (s : SV) (b : Blk) (L : Loc), ArgB w L b ∧ (∀ β : Bt, β id = some L → SRel β s (.slice a len cap)) ∧ (∀ h : Heap, h[id]? = some b → IsInts h s (zs.take len)) ∧ (zs.take len).length = len := by
  rcases hr with ⟨rfl, rfl, rfl, rfl⟩ | ⟨x, rfl, h1, h2, h3, h4, h5⟩
  · refine ⟨.nilS, .dead 1, ⟨0, 0, 0, 1⟩, ⟨rfl, rfl, fun cs rw e h => by simp at h⟩, fun β _ => .nilS, fun h _ => .inl ⟨rfl, by simp, by simp⟩, by simp⟩
  · have hlen : (zs.take len).length = len := by simp; omega
    by_cases h0 : len = 0
    · subst h0
      by_cases hc : cap = 0
      · subst hc
        refine ⟨.slc id 0 0 none, .dead 1, ⟨0, 0, 0, 1⟩, ⟨rfl, rfl, fun cs rw e h => by simp at h⟩, fun β hb => .slc hb (fun k hk => by simp at hk) (Nat.le_refl _) (fun h => by omega) (fun h => by omega), fun h hg => ?_, by simp⟩
        exact .inr ⟨id, 0, none, _, by simp, hg, rfl, by simp, by simp⟩
      · have hc0 := h4 0 (by omega)
        have hx := add_spot hc0
        have hlast := h4 (cap - 1) (by omega)
        rw [hx, Addr.add_off] at hlast
        unfold World.cell? at hlast
        split at hlast
        · rename_i ccs e fz hh
          simp at hlast
          have hsz := (Array.getElem?_eq_some_iff.1 hlast).1
          refine ⟨.slc id 0 0 none, .dead 1, ⟨x.block, x.off, ccs.size, 1⟩, ⟨rfl, rfl, fun cs rw e h => by simp at h⟩, fun β hb => .slc hb (fun k hk => by simp at hk) h1 (fun _ => by simpa using hx) (fun _ => ⟨Nat.le_refl _, by simp at hsz ⊢; omega⟩), fun h hg => ?_, by simp⟩
          exact .inr ⟨id, 0, none, _, by simp, hg, rfl, by simp, by simp⟩
        · simp at hlast
    · have hc0 := h4 0 (by omega)
      have hx := add_spot hc0
      have hlast := h4 (cap - 1) (by omega)
      rw [hx, Addr.add_off] at hlast
      unfold World.cell? at hlast
      split at hlast
      · rename_i ccs e fz hh
        simp at hlast hh
        have hsz := (Array.getElem?_eq_some_iff.1 hlast).1
        refine ⟨.slc id 0 len none, .cells ((zs.take len).map (.int .i64)) false 1, ⟨x.block, x.off, ccs.size, 1⟩, ⟨rfl, rfl, fun cs rw e' h => ?_⟩, fun β hb => .slc hb (fun k hk => by simp at hk) h1 (fun _ => by simpa using hx) (fun _ => ⟨Nat.le_refl _, by simp at hsz ⊢; omega⟩), fun h hg => ?_, hlen⟩
        · simp at h
          obtain ⟨rfl, rfl, rfl⟩ := h
          refine ⟨rfl, ccs, e, fz, hh, rfl, by simp at hsz ⊢; omega, fun i v hi => ?_⟩
          have hil := (List.getElem?_eq_some_iff.1 hi).1
          simp at hil
          have hil1 : i < len := by omega
          have hil2 : i < zs.length := by omega
          have hci := h4 i hil2
          rw [hx, Addr.add_off, cell_of_row w x.block _ ccs e fz hh] at hci
          refine ⟨_, hci, fun β => ?_⟩
          simp [hil1, hil2] at hi
          subst hi
          simp [List.getD, hil2]
          exact .int _ _
        · refine .inr ⟨id, 0, none, _, by rw [hlen], hg, rfl, fun h => by omega, fun _ => ⟨_, _, rfl, ?_⟩⟩
          rw [hlen]
          unfold cut
          simp only [ESz.one_n]
          rw [if_pos (by simp; omega)]
          simp
          apply List.take_of_length_le
          simp; omega
      · simp at hlast

end Go.Ab
