import Derived.Test.YtleoalcbgpjieaaDoorAb32
import Derived.Shelf.Strings.FieldsAny
/- Hooks that answer less; what a closed run over hooks answers. -/
namespace Go.Ab
variable [Base]
set_option linter.unusedSectionVars false
set_option linter.unusedVariables false

theorem HkOK.less {P : Program} {f : FuncId} {g g' : Hook} (h : HkOK P f g) (hl : ∀ args hp r, g' args hp = some r → g args hp = some r) : HkOK P f g' :=
  ⟨h.fn, fun args hp v h' hs => h.len _ _ _ _ (hl _ _ _ hs), fun args hp v h' hs => h.run _ _ _ _ (hl _ _ _ hs)⟩

theorem constHook_same {P : Program} {FT : FuncId → Option AFun} {HK : FuncId → Option Hook} (ok : FTok P FT) (hk : HKok P HK) {m : Nat} {f : FuncId} {x : SV} {h' : Heap} (hx : ∀ β β' c, SRel β' x c → SRel β x c)
    (hr : callA FT HK m f [] [] = some (.sc x, h')) : HkOK P f (constHook (.sc x)) := by
  have CO := call_ok ok hk m
  refine ⟨CO.fn _ _ _ _ hr, fun args h v h1 hs => ?_, fun args h v h1 hs β w vs hvs R hf => ?_⟩
  · unfold constHook at hs
    split at hs
    · simp at hs; rw [hs.2]; exact Nat.le_refl _
    · simp at hs
  · unfold constHook at hs
    split at hs
    · rename_i he
      have : args = [] := by simpa using he
      subst this
      simp at hs
      obtain ⟨rfl, rfl⟩ := hs
      cases hvs
      refine (CO.run f [] [] _ h' hr (fun _ => none) w [] .nil ⟨fun _ _ _ h => by simp at h, fun _ _ _ _ _ h => by simp at h, fun _ _ _ _ _ _ _ _ _ h => by simp at h, R.keep⟩ (fun _ _ _ => rfl)).mono ?_
      rintro e w' ⟨β', c, rfl, h2, h3, -⟩
      have hw : ∀ b, b < w.heap.size → w'.heap[b]? = w.heap[b]? := fun b hb => h3.frame b hb (by rintro ⟨id, L, cs, esz, hg, -⟩; simp at hg)
      cases h2 with
      | sc h2 =>
        exact ⟨β, c, rfl, .sc (hx _ _ _ h2), ⟨fun _ _ h => h, fun _ _ h => .inl h, fun id h1 h2 => by omega, Nat.le_refl _, fun b hb => .inr hb, fun id L h1 h2 => by rw [h1] at h2; simp at h2, fun b hb _ => hw b hb, h3.size, h3.os, h3.tape, h3.output⟩, rep_later R hw⟩
    · simp at hs

/-- strings.Fields of a plain text. -/
def fieldsHookA : Hook := fun args h => match args with
  | [.sc (.str s)] => if s.data.toList.all (fun b => decide (b.toNat < 128)) = true ∧ s.size < 1000 then
      some (.sc (.slc h.length 0 (Lib.fields s.data.toList).length (some (Lib.fields s.data.toList).length)), h ++ [.cells ((Lib.fields s.data.toList).map tb) false 1]) else none
  | _ => none
theorem fieldsHookA_less (args : List AV) (h : Heap) (r : AV × Heap) (hs : fieldsHookA args h = some r) : fieldsHook args h = some r := by
  unfold fieldsHookA at hs
  split at hs
  · rename_i s
    split at hs
    · rename_i hc
      have he := Lib.fieldsD_ascii s.data.toList (fun b hb => by simpa using List.all_eq_true.1 hc.1 b hb)
      simp only [fieldsHook]
      rw [if_pos (by omega), he]
      exact hs
    · cases hs
  · cases hs
/-- strconv.Itoa of a digit. -/
def itoaHookA : Hook := fun args h => match args with
  | [.sc (.int .i64 n)] => if 0 ≤ n ∧ n < 10 then some (.sc (tb [UInt8.ofNat (48 + n.toNat)]), h) else none
  | _ => none
theorem itoaHookA_less (args : List AV) (h : Heap) (r : AV × Heap) (hs : itoaHookA args h = some r) : itoaHook args h = some r := by
  unfold itoaHookA at hs
  split at hs
  · rename_i n
    split at hs
    · rename_i hc
      simp only [itoaHook]
      have e : Lib.itoa n = [UInt8.ofNat (48 + n.toNat)] := by
        unfold Lib.itoa
        rw [if_neg (by omega), Lib.decDigits, dif_pos (by omega)]
      rw [if_pos (by omega), e]
      exact hs
    · cases hs
  · cases hs
/-- strconv.Itoa of a digit, with a sign. -/
def itoaHookB : Hook := fun args h => match args with
  | [.sc (.int .i64 n)] => if -10 < n ∧ n < 10 then some (.sc (tb (if n < 0 then [45, UInt8.ofNat (48 + n.natAbs)] else [UInt8.ofNat (48 + n.toNat)])), h) else none
  | _ => none
theorem itoaHookB_less (args : List AV) (h : Heap) (r : AV × Heap) (hs : itoaHookB args h = some r) : itoaHook args h = some r := by
  unfold itoaHookB at hs
  split at hs
  · rename_i n
    split at hs
    · rename_i hc
      simp only [itoaHook]
      have e : Lib.itoa n = if n < 0 then [45, UInt8.ofNat (48 + n.natAbs)] else [UInt8.ofNat (48 + n.toNat)] := by
        unfold Lib.itoa
        by_cases h0 : n < 0
        · rw [if_pos h0, if_pos h0, Lib.decDigits, dif_pos (by omega)]
        · rw [if_neg h0, if_neg h0, Lib.decDigits, dif_pos (by omega)]
      rw [if_pos (by omega), e]
      exact hs
    · cases hs
  · cases hs

end Go.Ab


/- Arguments whose rows hold slices themselves: rows that are only read, related cell by cell under a given map. -/
namespace Go.Ab
variable [Base]
set_option linter.unusedSectionVars false
set_option linter.unusedVariables false

/-- What is known of a block of the arguments, under the map β. -/
structure ArgR (β : Bt) (w : World) (L : Loc) (b : Blk) : Prop where
  esz : L.esz = b.esz
  ty : b.esz.ty = none ∧ b.esz.n < 1000000
  cells : ∀ cs rw e, b = .cells cs rw e → rw = false ∧ ∃ ccs e' fz, w.heap[L.b]? = some (.cells ccs e' fz) ∧ ccs.size = L.sz ∧ L.base + cs.length ≤ L.sz ∧
    ∀ (i : Nat) (v : SV), cs[i]? = some v → ∃ c, ccs[L.base + i]? = some c ∧ SRel β v c
theorem ArgB.r {β : Bt} {w : World} {L : Loc} {b : Blk} (h : ArgB w L b) : ArgR β w L b :=
  ⟨h.esz, h.ty, fun cs rw e hb => let ⟨h1, ccs, e', fz, h2, h3, h4, h5⟩ := h.cells cs rw e hb; ⟨h1, ccs, e', fz, h2, h3, h4, fun i v hv => let ⟨c, q1, q2⟩ := h5 i v hv; ⟨c, q1, q2 β⟩⟩⟩
theorem rep_argsR {w : World} {h : Heap} {Ls : List Loc} (hl : Ls.length = h.length) (hn : Base.B ≤ w.heap.size ∧ ∀ b, b < Base.B → w.heap[b]? = Base.W.heap[b]?) (hb : ∀ (id : Nat) (L : Loc) (b : Blk), Ls[id]? = some L → h[id]? = some b → ArgR (fun id => Ls[id]?) w L b) : Rep (fun id => Ls[id]?) h w := by
  refine ⟨fun id b L hg hL => (hb id L b hL hg).esz, fun id L cs rw esz hg hL => ?_, fun i j L M cs esz cs' rw' esz' hi hj hij hL hM => ?_, hn⟩
  · have hB := hb id L _ hL hg
    obtain ⟨rfl, ccs, e', fz, h1, h2, h3, h4⟩ := hB.cells cs rw esz rfl
    exact .inl ⟨hB.ty.2, hB.esz, ccs, e', fz, h1, h2, h3, h4, fun h => by simp at h, (by intro t ht; have h5 : esz.ty = none := hB.ty.1; rw [h5] at ht; cases ht), (by intro t ht; have h5 : esz.ty = none := hB.ty.1; rw [ht] at h5; cases h5), fun h => by simp at h⟩
  · obtain ⟨h1, -⟩ := (hb i L _ hL hi).cells cs true esz rfl
    simp at h1
theorem top_belowR {P : Program} {FT : FuncId → Option AFun} {HK : FuncId → Option Hook} (ok : FTok P FT) (hk : HKok P HK) {m : Nat} {f : FuncId} {args : List AV} {vs : List Value} {h h' : Heap} {w : World} {Ls : List Loc} (hl : Ls.length = h.length) (hn : Base.B ≤ w.heap.size ∧ ∀ b, b < Base.B → w.heap[b]? = Base.W.heap[b]?)
    (hb : ∀ (id : Nat) (L : Loc) (b : Blk), Ls[id]? = some L → h[id]? = some b → ArgR (fun id => Ls[id]?) w L b) (hr : F2 (ARel fun id => Ls[id]?) args vs) (hc : callA FT HK m f args h = some (.sc (.bool true), h')) :
    Calls P f vs.toArray w fun e w' => e = .returned (.bool true) ∧ RowKit.Below w.heap.size w w' := by
  refine ((call_ok ok hk m).run f args h _ h' hc _ w vs hr (rep_argsR hl hn hb) ?_).mono ?_
  · intro id h1 h2
    exact List.getElem?_eq_none (by omega)
  · rintro e w' ⟨β', c, rfl, h1, h2, h3⟩
    cases h1 with
    | sc h1 =>
      cases h1
      refine ⟨rfl, ⟨h2.os, h2.tape, h2.output, h2.size, fun k hk => h2.frame k hk ?_⟩⟩
      rintro ⟨id, L, cs, esz, hg, hL, -⟩
      obtain ⟨h4, -⟩ := (hb id L _ hL hg).cells cs true esz rfl
      simp at h4

/-- A row that came in: cells from x on. -/
theorem arg_row {β : Bt} {w : World} {x : Addr} {cs : List SV} {z : ESz} (hz : z.ty = none ∧ z.n < 1000000) (h0 : 0 < cs.length) (hc : ∀ (i : Nat) (v : SV), cs[i]? = some v → ∃ c, w.cell? (x.add i) = some c ∧ SRel β v c) :
    ∃ L : Loc, ArgR β w L (.cells cs false z) ∧ x = ⟨L.b, L.base, none⟩ ∧ L.base + cs.length ≤ L.sz := by
  obtain ⟨c0, k0, -⟩ := hc 0 cs[0] (by simp [h0])
  have hx := add_spot k0
  obtain ⟨cl, kl, -⟩ := hc (cs.length - 1) cs[cs.length - 1] (by simp)
  rw [hx, Addr.add_off] at kl
  unfold World.cell? at kl
  split at kl
  · rename_i ccs e fz hh
    simp at kl hh
    have hsz := (Array.getElem?_eq_some_iff.1 kl).1
    refine ⟨⟨x.block, x.off, ccs.size, z⟩, ⟨rfl, hz, fun cs' rw' e' h => ?_⟩, hx, by simp at hsz ⊢; omega⟩
    simp at h
    obtain ⟨rfl, rfl, rfl⟩ := h
    refine ⟨rfl, ccs, e, fz, hh, rfl, by simp at hsz ⊢; omega, fun i v hi => ?_⟩
    obtain ⟨c, k1, k2⟩ := hc i v hi
    rw [hx, Addr.add_off, cell_of_row w x.block _ ccs e fz hh] at k1
    exact ⟨c, k1, k2⟩
  · simp at kl
end Go.Ab

