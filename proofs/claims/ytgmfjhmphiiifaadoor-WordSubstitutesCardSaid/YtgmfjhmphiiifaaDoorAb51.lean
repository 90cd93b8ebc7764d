import Derived.Test.YtgmfjhmphiiifaaDoorAb41
import Derived.Test.YtgmfjhmphiiifaaDoorAb39
/- Arguments of any depth: slices of structs of slices, as blocks that are only read. -/
namespace Go.Ab
set_option linter.unusedVariables false
set_option linter.unusedSectionVars false

/-- Cells that came in: they can be laid as blocks from any number on, and R holds of them then. -/
def CsOK (w : World) (R : Heap → List SV → Prop) (cs : List Value) : Prop :=
  ∃ (Ls : List Loc) (bs : Nat → List Blk) (sf : Nat → List SV), ∀ k, (bs k).length = Ls.length ∧
    (∀ β : Bt, (∀ (i : Nat) (L : Loc), Ls[i]? = some L → β (k + i) = some L) → F2 (SRel β) (sf k) cs ∧ ∀ (i : Nat) (L : Loc) (b : Blk), Ls[i]? = some L → (bs k)[i]? = some b → ArgR β w L b) ∧
    ∀ h : Heap, (∀ (i : Nat) (b : Blk), (bs k)[i]? = some b → h[k + i]? = some b) → R h (sf k)
namespace CsOK
variable {w : World} {R R1 R2 : Heap → List SV → Prop} {cs c1 c2 : List Value}
theorem mono (a : CsOK w R1 cs) (h : ∀ H ss, R1 H ss → R2 H ss) : CsOK w R2 cs := by
  obtain ⟨Ls, bs, sf, q⟩ := a
  exact ⟨Ls, bs, sf, fun k => ⟨(q k).1, (q k).2.1, fun H hh => h _ _ ((q k).2.2 H hh)⟩⟩
theorem nil : CsOK w (fun _ ss => ss = []) [] := ⟨[], fun _ => [], fun _ => [], fun k => ⟨rfl, fun β _ => ⟨.nil, fun i L b h => by simp at h⟩, fun h _ => rfl⟩⟩
theorem int (k : IntKind) (n : Int) : CsOK w (fun _ ss => ss = [.int k n]) [.int k n] := ⟨[], fun _ => [], fun _ => [.int k n], fun _ => ⟨rfl, fun β _ => ⟨.cons (.int _ _) .nil, fun i L b h => by simp at h⟩, fun h _ => rfl⟩⟩
theorem bool (n : Bool) : CsOK w (fun _ ss => ss = [.bool n]) [.bool n] := ⟨[], fun _ => [], fun _ => [.bool n], fun _ => ⟨rfl, fun β _ => ⟨.cons (.bool _) .nil, fun i L b h => by simp at h⟩, fun h _ => rfl⟩⟩
theorem app (a : CsOK w R1 c1) (b : CsOK w R2 c2) : CsOK w (fun h ss => ∃ l1 l2, ss = l1 ++ l2 ∧ R1 h l1 ∧ R2 h l2) (c1 ++ c2) := by
  obtain ⟨L1, b1, s1, q1⟩ := a
  obtain ⟨L2, b2, s2, q2⟩ := b
  refine ⟨L1 ++ L2, fun k => b1 k ++ b2 (k + L1.length), fun k => s1 k ++ s2 (k + L1.length), fun k => ?_⟩
  obtain ⟨x1, x2, x3⟩ := q1 k
  obtain ⟨y1, y2, y3⟩ := q2 (k + L1.length)
  refine ⟨by simp [x1, y1], fun β hβ => ?_, fun h hh => ⟨_, _, rfl, x3 h fun i b hb => hh i b ?_, y3 h fun i b hb => ?_⟩⟩
  · obtain ⟨u1, u2⟩ := x2 β fun i L hL => hβ i L (by rw [List.getElem?_append_left (List.getElem?_eq_some_iff.1 hL).1]; exact hL)
    obtain ⟨v1, v2⟩ := y2 β fun i L hL => by
      rw [Nat.add_assoc]
      exact hβ (L1.length + i) L (by rw [List.getElem?_append_right (by omega), Nat.add_sub_cancel_left]; exact hL)
    refine ⟨u1.append v1, fun i L b hL hb => ?_⟩
    rcases Nat.lt_or_ge i L1.length with h | h
    · rw [List.getElem?_append_left h] at hL
      rw [List.getElem?_append_left (by omega)] at hb
      exact u2 i L b hL hb
    · rw [List.getElem?_append_right h] at hL
      rw [List.getElem?_append_right (by omega), x1] at hb
      exact v2 _ L b hL hb
  · rw [List.getElem?_append_left (List.getElem?_eq_some_iff.1 hb).1]; exact hb
  · rw [Nat.add_assoc]
    refine hh (L1.length + i) b ?_
    rw [List.getElem?_append_right (by omega), x1, Nat.add_sub_cancel_left]; exact hb
/-- A slice of such cells. -/
theorem slc {z : ESz} (hz : z.ty = none ∧ z.n < 1000000) (hn : 1 ≤ z.n) {x : Addr} {len cap : Nat} (hle : len ≤ cap) (hcell : ∀ i, i < cap * z.n → ∃ c, w.cell? (x.add i) = some c) (hl : cs.length = len * z.n)
    (hv : ∀ (i : Nat) (v : Value), cs[i]? = some v → w.cell? (x.add i) = some v) (a : CsOK w R cs) : CsOK w (fun h ss => ∃ s l, ss = [s] ∧ IsSl h s z len l ∧ R h l) [.slice (some x) len cap] := by
  obtain ⟨Ls, bs, sf, q⟩ := a
  obtain ⟨Lo, g1, g2⟩ := arg_rowc hz hn hle hcell
  have lsf : ∀ k, (∃ β : Bt, ∀ (i : Nat) (L : Loc), Ls[i]? = some L → β (k + i) = some L) := fun k => ⟨fun j => Ls[j - k]?, fun i L hL => by simpa using hL⟩
  have hsl : ∀ k, (sf k).length = len * z.n := fun k => by
    obtain ⟨β, hβ⟩ := lsf k
    rw [((q k).2.1 β hβ).1.length, hl]
  refine ⟨Lo :: Ls, fun k => blkOf (sf (k + 1)) z :: bs (k + 1), fun k => [.slc k 0 len none], fun k => ?_⟩
  obtain ⟨x1, x2, x3⟩ := q (k + 1)
  refine ⟨by simp [x1], fun β hβ => ?_, fun h hh => ⟨_, sf (k + 1), rfl, blk_sl (hsl _) hn (hh 0 _ rfl), x3 h fun i b hb => ?_⟩⟩
  · obtain ⟨u1, u2⟩ := x2 β fun i L hL => by rw [show k + 1 + i = k + (i + 1) by omega]; exact hβ (i + 1) L (by simpa using hL)
    refine ⟨.cons (g1 β k (hβ 0 Lo rfl)) .nil, fun i L b hL hb => ?_⟩
    cases i with
    | zero =>
      simp at hL hb
      subst hL hb
      refine g2 β _ (by rw [hsl]; exact Nat.mul_le_mul_right _ hle) fun i v hi => ?_
      obtain ⟨c, hc, r⟩ := u1.get hi
      exact ⟨c, hv i c hc, r⟩
    | succ i => exact u2 i L b (by simpa using hL) (by simpa using hb)
  · rw [show k + 1 + i = k + (i + 1) by omega]
    exact hh (i + 1) b (by simpa using hb)
theorem slc0 (z : ESz) : CsOK w (fun h ss => ∃ s l, ss = [s] ∧ IsSl h s z 0 l ∧ l = []) [.slice none 0 0] := ⟨[], fun _ => [], fun _ => [.nilS], fun k => ⟨rfl, fun β _ => ⟨.cons .nilS .nil, fun i L b h => by simp at h⟩, fun h _ => ⟨_, [], rfl, .inl ⟨rfl, rfl, rfl⟩, rfl⟩⟩⟩
end CsOK
/-- Elements one after the other. -/
def RL {δ : Type} (R : δ → Heap → List SV → Prop) : List δ → Heap → List SV → Prop
  | [], _, l => l = []
  | d :: ds, h, l => ∃ l1 l2, l = l1 ++ l2 ∧ R d h l1 ∧ RL R ds h l2
theorem RL.snoc {δ : Type} {R : δ → Heap → List SV → Prop} {d : δ} {h : Heap} {m : List SV} (hd : R d h m) : ∀ {ds : List δ} {l : List SV}, RL R ds h l → RL R (ds ++ [d]) h (l ++ m)
  | [], l, e => by
    have : l = [] := e
    subst this
    exact ⟨m, [], by simp, hd, rfl⟩
  | d' :: ds, l, ⟨l1, l2, e, a, b⟩ => ⟨l1, l2 ++ m, by rw [e, List.append_assoc], a, RL.snoc hd b⟩
section
variable {H : Type} {enc : TypeId × Value → H} {P : Program} {w : World} {base fuel : Nat} {held : Bool}
/-- The type t is read as δ. -/
def TOk (enc : TypeId × Value → H) (P : Program) (w : World) (base : Nat) (held : Bool) (t : TypeId) (c : Nat) (δ : Type) (R : δ → Heap → List SV → Prop) : Prop :=
  ∀ (fuel : Nat) (cs : List Value) (x : DataW H × List MemPlace), DataW.trod enc P w base (fun _ => true) held fuel t cs = some x → cs.length = c ∧ ∃ d, CsOK w (R d) cs
theorem TOk.int {t : TypeId} {k : IntKind} (ht : P.underlying t = some (.int k)) : TOk enc P w base held t 1 Int fun n _ ss => ss = [.int k n] ∧ (Lit.int k n).wf = true := by
  intro fuel cs x h
  obtain ⟨n, rfl, -, wf⟩ := DataW.trod_int ht h
  exact ⟨rfl, n, (CsOK.int k n).mono fun _ _ e => ⟨e, wf⟩⟩
theorem TOk.mono {t : TypeId} {c : Nat} {δ δ' : Type} {R : δ → Heap → List SV → Prop} {R' : δ' → Heap → List SV → Prop} (a : TOk enc P w base held t c δ R) (h : ∀ d, ∃ d', ∀ H ss, R d H ss → R' d' H ss) : TOk enc P w base held t c δ' R' := by
  intro fuel cs x hx
  obtain ⟨hl, d, q⟩ := a fuel cs x hx
  obtain ⟨d', hd⟩ := h d
  exact ⟨hl, d', q.mono hd⟩
theorem TOk.struct2 {t : TypeId} {f0 f1 : Field} {c0 c1 : Nat} {α β : Type} {R0 : α → Heap → List SV → Prop} {R1 : β → Heap → List SV → Prop} (ht : P.underlying t = some (.struct #[f0, f1]))
    (h0 : f0.offset = 0 ∧ P.cellsOf f0.type = c0) (h1 : f1.offset = c0 ∧ P.cellsOf f1.type = c1) (hc : P.cellsOf t = c0 + c1) (a : TOk enc P w base held f0.type c0 α R0) (b : TOk enc P w base held f1.type c1 β R1) :
    TOk enc P w base held t (c0 + c1) (α × β) fun d h ss => ∃ l1 l2, ss = l1 ++ l2 ∧ R0 d.1 h l1 ∧ R1 d.2 h l2 := by
  intro fuel cs x hx
  obtain ⟨y0, y1, n, -, hl, g0, g1⟩ := ChangeShapes.trod_struct2 ht hx
  rw [hc] at hl
  rw [h0.1, h0.2, List.drop_zero] at g0
  rw [h1.1, h1.2] at g1
  obtain ⟨-, d0, q0⟩ := a _ _ _ g0
  obtain ⟨-, d1, q1⟩ := b _ _ _ g1
  refine ⟨hl, (d0, d1), ?_⟩
  have e : cs = cs.take c0 ++ (cs.drop c0).take c1 := by
    rw [List.take_of_length_le (l := cs.drop c0) (by rw [List.length_drop]; omega), List.take_append_drop]
  rw [e]
  exact q0.app q1
theorem TOk.slice {t e : TypeId} {c : Nat} {δ : Type} {R : δ → Heap → List SV → Prop} (ht : P.underlying t = some (.slice e)) (hc : P.cellsOf e = c) (hc1 : 1 ≤ c ∧ c < 1000000) (a : TOk enc P w base held e c δ R) :
    TOk enc P w base held t 1 (List δ) fun ds h ss => ∃ s l, ss = [s] ∧ IsSl h s ⟨c, none⟩ ds.length l ∧ RL R ds h l := by
  intro fuel cs x hx
  rcases DataW.trod_slice ht hx with ⟨rfl, rfl⟩ | ⟨ad, len, cap, elems, rest, n, _, rfl, rfl, hba, hl, hm, hlen, hel, hsp, _⟩
  · exact ⟨rfl, [], (CsOK.slc0 ⟨c, none⟩).mono fun h ss ⟨s, l, e1, e2, e3⟩ => ⟨s, l, e1, e2, e3⟩⟩
  refine ⟨rfl, ?_⟩
  obtain ⟨hrl, hrest⟩ := hsp rfl
  rw [hc] at hel hrest
  have one : ∀ {ad : Addr} {y : DataW H × List MemPlace}, (w.cells? base ad c).bind (DataW.trod enc P w base (fun _ => true) held n e) = some y → ∃ (d : δ) (vs : List Value), vs.length = c ∧ (∀ (i : Nat) (v : Value), vs[i]? = some v → w.cell? (ad.add i) = some v) ∧ CsOK w (R d) vs := by
    intro ad y hy
    rw [Option.bind_eq_some_iff] at hy
    obtain ⟨vs, hvs, hy⟩ := hy
    obtain ⟨hbl, hvl, hv⟩ := World.cells?_some hvs
    obtain ⟨_, d, q⟩ := a _ _ _ hy
    exact ⟨d, vs, hvl, fun i v hi => by rw [hv i (by have := (List.getElem?_eq_some_iff.1 hi).1; omega)]; exact hi, q⟩
  have key : ∀ i, i < len → ∃ (d : δ) (vs : List Value), vs.length = c ∧ (∀ (j : Nat) (v : Value), vs[j]? = some v → w.cell? (ad.add (i * c + j)) = some v) ∧ CsOK w (R d) vs := fun i hi => by
    have hx := hel i hi
    rw [List.getElem?_eq_getElem (by omega)] at hx
    obtain ⟨d, vs, q1, q2, q3⟩ := one hx
    exact ⟨d, vs, q1, fun j v hj => by rw [← add_add]; exact q2 j v hj, q3⟩
  have key2 : ∀ i, i < cap → ∀ j, j < c → ∃ v, w.cell? (ad.add (i * c + j)) = some v := fun i hi j hj => by
    by_cases h9 : i < len
    · obtain ⟨d, vs, q1, q2, _⟩ := key i h9
      exact ⟨_, q2 j _ (List.getElem?_eq_getElem (by omega))⟩
    · have hx := hrest (i - len) (by omega)
      rw [show len + (i - len) = i by omega, List.getElem?_eq_getElem (by omega)] at hx
      obtain ⟨d, vs, q1, q2, _⟩ := one hx
      exact ⟨vs[j]'(by omega), by rw [← add_add]; exact q2 j _ (List.getElem?_eq_getElem (by omega))⟩
  have all : ∀ m, m ≤ len → ∃ (ds : List δ) (vs : List Value), ds.length = m ∧ vs.length = m * c ∧ (∀ (j : Nat) (v : Value), vs[j]? = some v → w.cell? (ad.add j) = some v) ∧ CsOK w (RL R ds) vs := by
    intro m
    induction m with
    | zero => intro _; exact ⟨[], [], rfl, by simp, fun j v h => by simp at h, CsOK.nil⟩
    | succ m ih =>
      intro hm
      obtain ⟨ds, vs, e1, e2, e3, e4⟩ := ih (by omega)
      obtain ⟨d, us, f1, f2, f3⟩ := key m (by omega)
      refine ⟨ds ++ [d], vs ++ us, by simp [e1], by rw [List.length_append, e2, f1, Nat.succ_mul], fun j v hj => ?_, (e4.app f3).mono fun h ss ⟨l1, l2, g1, g2, g3⟩ => by rw [g1]; exact RL.snoc g3 g2⟩
      rcases Nat.lt_or_ge j (m * c) with h | h
      · rw [List.getElem?_append_left (by omega)] at hj
        exact e3 j v hj
      · rw [List.getElem?_append_right (by omega), e2] at hj
        have := f2 (j - m * c) v hj
        rwa [show m * c + (j - m * c) = j by omega] at this
  obtain ⟨ds, vs, e1, e2, e3, e4⟩ := all len (Nat.le_refl _)
  have hz : (⟨c, none⟩ : ESz).n = c := rfl
  refine ⟨ds, ?_⟩
  show CsOK w (fun h ss => ∃ s l, ss = [s] ∧ IsSl h s ⟨c, none⟩ ds.length l ∧ RL R ds h l) _
  rw [e1]
  refine CsOK.slc (z := ⟨c, none⟩) ⟨rfl, by rw [hz]; omega⟩ (by rw [hz]; omega) hl (fun i hi => ?_) (by rw [e2, hz]) e3 e4
  rw [hz] at hi
  have h2 : i / c < cap := Nat.div_lt_of_lt_mul (by rw [Nat.mul_comm]; exact hi)
  obtain ⟨v, hv⟩ := key2 (i / c) h2 (i % c) (Nat.mod_lt _ (by omega))
  rw [Nat.mul_comm, Nat.div_add_mod] at hv
  exact ⟨v, hv⟩
end
/-- The whole: arguments as blocks from number 0 on. -/
theorem CsOK.top [Base] {w : World} {R : Heap → List SV → Prop} {cs : List Value} (a : CsOK w R cs) : ∃ (Ls : List Loc) (h : Heap) (ss : List SV), Ls.length = h.length ∧ F2 (SRel fun id => Ls[id]?) ss cs ∧ (∀ (id : Nat) (L : Loc) (b : Blk), Ls[id]? = some L → h[id]? = some b → ArgR (fun id => Ls[id]?) w L b) ∧ R h ss := by
  obtain ⟨Ls, bs, sf, q⟩ := a
  obtain ⟨x1, x2, x3⟩ := q 0
  obtain ⟨u1, u2⟩ := x2 (fun id => Ls[id]?) fun i L hL => by simpa using hL
  exact ⟨Ls, bs 0, sf 0, x1.symm, u1, u2, x3 _ fun i b hb => by simpa using hb⟩
end Go.Ab

