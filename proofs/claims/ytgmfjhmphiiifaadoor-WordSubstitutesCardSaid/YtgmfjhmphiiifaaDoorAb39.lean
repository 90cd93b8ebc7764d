import Derived.Test.YtgmfjhmphiiifaaDoorAb38
import Derived.Test.YtgmfjhmphiiifaaDoorAb34
import Derived.ChangeArms
import Derived.ChangeSame
import Derived.DataReads
/- Arguments that are slices of slices of pairs (an integer and a bool): rows and what is known of them. -/
namespace Go.Ab
set_option linter.unusedVariables false
set_option linter.unusedSectionVars false

/-- A row as a block: none if it is empty. -/
def blkOf (cs : List SV) (z : ESz) : Blk := if cs = [] then .dead z else .cells cs false z
theorem blkOf_esz (cs : List SV) (z : ESz) : (blkOf cs z).esz = z := by unfold blkOf; split <;> rfl
theorem blk_sl {z : ESz} {cs : List SV} {len : Nat} (hl : cs.length = len * z.n) (hn : 1 ≤ z.n) {h : Heap} {id : Nat} (hg : h[id]? = some (blkOf cs z)) : IsSl h (.slc id 0 len none) z len cs := by
  refine .inr ⟨id, 0, none, _, rfl, hg, blkOf_esz cs z, fun h0 => ?_, fun h0 => ?_⟩
  · subst h0
    exact List.eq_nil_of_length_eq_zero (by omega)
  · have : cs ≠ [] := fun e => by
      subst e
      have h1 : 1 * 1 ≤ len * z.n := Nat.mul_le_mul h0 hn
      simp at hl; omega
    refine ⟨cs, false, by unfold blkOf; rw [if_neg this], ?_⟩
    unfold cut
    rw [if_pos (by omega), List.drop_zero, ← hl, List.take_length]
theorem arg_rowc {w : World} {z : ESz} (hz : z.ty = none ∧ z.n < 1000000) (hn : 1 ≤ z.n) {x : Addr} {len cap : Nat} (hle : len ≤ cap) (hcell : ∀ i, i < cap * z.n → ∃ c, w.cell? (x.add i) = some c) :
    ∃ L : Loc, (∀ (β : Bt) (id : Nat), β id = some L → SRel β (.slc id 0 len none) (.slice (some x) len cap)) ∧
      ∀ (β : Bt) (cs : List SV), cs.length ≤ cap * z.n → (∀ (i : Nat) (v : SV), cs[i]? = some v → ∃ c, w.cell? (x.add i) = some c ∧ SRel β v c) → ArgR β w L (blkOf cs z) := by
  by_cases h0 : cap = 0
  · subst h0
    refine ⟨⟨0, 0, 0, z⟩, fun β id hb => .slc hb (fun k hk => by simp at hk) hle (fun h => by omega) (fun h => by omega) hz.2, fun β cs hl _ => ?_⟩
    have : cs = [] := List.eq_nil_of_length_eq_zero (by omega)
    subst this
    exact ⟨rfl, hz, fun cs rw e h => by simp [blkOf] at h⟩
  · have hpos : 1 * 1 ≤ cap * z.n := Nat.mul_le_mul (by omega) hn
    obtain ⟨c0, k0⟩ := hcell 0 (by omega)
    have hx := add_spot k0
    obtain ⟨cl, kl⟩ := hcell (cap * z.n - 1) (by omega)
    rw [hx, Addr.add_off] at kl
    unfold World.cell? at kl
    split at kl
    · rename_i ccs e fz hh
      simp at kl hh
      have hsz := (Array.getElem?_eq_some_iff.1 kl).1
      refine ⟨⟨x.block, x.off, ccs.size, z⟩, fun β id hb => .slc hb (fun k hk => by simp at hk) hle (fun _ => by simpa using hx) (fun _ => ⟨hn, by simp at hsz ⊢; omega⟩) hz.2, fun β cs hl hc => ⟨(blkOf_esz cs z).symm, by rw [blkOf_esz]; exact hz, fun cs' rw' e' h => ?_⟩⟩
      unfold blkOf at h
      split at h
      · cases h
      · cases h
        refine ⟨rfl, ccs, e, fz, hh, rfl, by simp at hsz ⊢; omega, fun i v hi => ?_⟩
        obtain ⟨c, k1, k2⟩ := hc i v hi
        rw [hx, Addr.add_off, cell_of_row w x.block _ ccs e fz hh] at k1
        exact ⟨c, k1, k2⟩
    · simp at kl

theorem add_add (a : Addr) (m k : Nat) : (a.add m).add k = a.add (m + k) := by
  unfold Addr.add
  by_cases h1 : m = 0
  · subst h1; simp
  · by_cases h2 : k = 0
    · subst h2; simp
    · rw [if_neg h1, if_neg h2, if_neg (by omega)]
      simp [Nat.add_assoc]
theorem weightsAll_mem {H : Type} {P : Program} {e : TypeId} : ∀ {l : List (DataW H)} {d : DataW H}, d ∈ l → ∀ n ∈ d.weights P e, n ∈ DataW.weightsAll P e l
  | d0 :: r, d, hd, n, hn => by
    simp only [DataW.weightsAll, List.mem_append]
    rcases List.mem_cons.1 hd with rfl | h
    · exact .inl hn
    · exact .inr (weightsAll_mem h n hn)

/-! ### A slice of pairs -/
def prC : List (Int × Bool) → List SV
  | [] => []
  | v :: r => .int .i64 v.1 :: .bool v.2 :: prC r
theorem prC_len : ∀ vs, (prC vs).length = vs.length * 2
  | [] => rfl
  | v :: r => by simp [prC, prC_len r]; omega
theorem prC_at : ∀ {vs : List (Int × Bool)} {i : Nat} {v : SV}, (prC vs)[i]? = some v → ∃ p, vs[i / 2]? = some p ∧ ((i % 2 = 0 ∧ v = .int .i64 p.1) ∨ (i % 2 = 1 ∧ v = .bool p.2))
  | [], i, v, h => by simp [prC] at h
  | p :: r, 0, v, h => by
    simp [prC] at h
    exact ⟨p, by simp, .inl ⟨rfl, h.symm⟩⟩
  | p :: r, 1, v, h => by
    simp [prC] at h
    exact ⟨p, by simp, .inr ⟨rfl, h.symm⟩⟩
  | p :: r, i + 2, v, h => by
    simp [prC] at h
    obtain ⟨q, h1, h2⟩ := prC_at h
    refine ⟨q, ?_, ?_⟩
    · rw [show (i + 2) / 2 = i / 2 + 1 by omega]; simpa using h1
    · rcases h2 with ⟨m, e⟩ | ⟨m, e⟩
      · exact .inl ⟨by omega, e⟩
      · exact .inr ⟨by omega, e⟩
/-- What a slice of pairs holds. -/
def RowP (w : World) (a : Option Addr) (len cap : Nat) (vs : List (Int × Bool)) : Prop :=
  (a = none ∧ len = 0 ∧ cap = 0 ∧ vs = []) ∨ ∃ x, a = some x ∧ len ≤ cap ∧ vs.length = len ∧ (∀ i, i < cap * 2 → ∃ c, w.cell? (x.add i) = some c) ∧
    (∀ (i : Nat) (v : Int × Bool), vs[i]? = some v → w.cell? (x.add (i * 2)) = some (.int .i64 v.1) ∧ w.cell? (x.add (i * 2 + 1)) = some (.bool v.2)) ∧ ∀ v ∈ vs, (Lit.int .i64 v.1).wf = true
section
variable {H : Type} {enc : TypeId × Value → H} {P : Program} {w : World} {base fuel : Nat} {held : Bool}
theorem row_of {t e ti tb : TypeId} {f0 f1 : Field} {cs : List Value} {x : DataW H × List MemPlace} (ht : P.underlying t = some (.slice e)) (he : P.underlying e = some (.struct #[f0, f1]))
    (h0 : f0.type = ti ∧ f0.offset = 0) (h1 : f1.type = tb ∧ f1.offset = 1) (hi : P.underlying ti = some (.int .i64)) (hb : P.underlying tb = some .bool) (hc : P.cellsOf e = 2) (ci : P.cellsOf ti = 1) (cb : P.cellsOf tb = 1)
    (h : DataW.trod enc P w base (fun _ => true) held fuel t cs = some x) (R : Nat) : ∃ a len cap vs, cs = [.slice a len cap] ∧ RowP w a len cap vs ∧ ((∀ n ∈ x.1.weights P t, n ≤ R) → len * P.bytesOf e ≤ R) := by
  rcases DataW.trod_slice ht h with ⟨rfl, rfl⟩ | ⟨a, len, cap, elems, rest, n, _, rfl, rfl, hba, hl, hm, hlen, hel, hsp, _⟩
  · exact ⟨none, 0, 0, [], rfl, .inl ⟨rfl, rfl, rfl, rfl⟩, fun _ => by simp⟩
  · obtain ⟨hrl, hrest⟩ := hsp rfl
    rw [hc] at hel hrest
    have one : ∀ {ad : Addr} {y : DataW H × List MemPlace}, (w.cells? base ad 2).bind (DataW.trod enc P w base (fun _ => true) held n e) = some y → ∃ (p : Int × Bool), w.cell? (ad.add 0) = some (.int .i64 p.1) ∧ w.cell? (ad.add 1) = some (.bool p.2) ∧ (Lit.int .i64 p.1).wf = true := by
      intro ad y hy
      rw [Option.bind_eq_some_iff] at hy
      obtain ⟨vs, hvs, hy⟩ := hy
      obtain ⟨hbl, hvl, hv⟩ := World.cells?_some hvs
      obtain ⟨y0, y1, m, rfl, hcl, g0, g1⟩ := ChangeShapes.trod_struct2 he hy
      rw [h0.1, h0.2, ci] at g0
      rw [h1.1, h1.2, cb] at g1
      obtain ⟨k, e0, _, wf⟩ := DataW.trod_int hi g0
      obtain ⟨b, e1, _⟩ := DataW.trod_bool hb g1
      match vs, hvl with
      | [u0, u1], _ =>
        simp at e0 e1
        subst e0 e1
        exact ⟨(k, b), by simpa using hv 0 (by omega), by simpa using hv 1 (by omega), wf⟩
    have ad2 : ∀ (i k : Nat), (a.add (i * 2)).add k = a.add (i * 2 + k) := fun i k => add_add a (i * 2) k
    have key : ∀ i, i < len → ∃ (p : Int × Bool), w.cell? (a.add (i * 2)) = some (.int .i64 p.1) ∧ w.cell? (a.add (i * 2 + 1)) = some (.bool p.2) ∧ (Lit.int .i64 p.1).wf = true := fun i hi => by
      have hx := hel i hi
      rw [List.getElem?_eq_getElem (by omega)] at hx
      obtain ⟨p, q1, q2, q3⟩ := one hx
      rw [ad2] at q1 q2
      exact ⟨p, q1, q2, q3⟩
    have key2 : ∀ i, i < cap → ∃ (p : Int × Bool), w.cell? (a.add (i * 2)) = some (.int .i64 p.1) ∧ w.cell? (a.add (i * 2 + 1)) = some (.bool p.2) := fun i hi => by
      by_cases h9 : i < len
      · obtain ⟨p, q1, q2, _⟩ := key i h9
        exact ⟨p, q1, q2⟩
      · have hx := hrest (i - len) (by omega)
        rw [show len + (i - len) = i by omega, List.getElem?_eq_getElem (by omega)] at hx
        obtain ⟨p, q1, q2, _⟩ := one hx
        rw [ad2] at q1 q2
        exact ⟨p, q1, q2⟩
    let f : Nat → Int × Bool := fun i => if hi : i < len then (key i hi).choose else (0, false)
    have hf : ∀ i (hi : i < len), w.cell? (a.add (i * 2)) = some (.int .i64 (f i).1) ∧ w.cell? (a.add (i * 2 + 1)) = some (.bool (f i).2) ∧ (Lit.int .i64 (f i).1).wf = true := fun i hi => by
      have := (key i hi).choose_spec
      simp only [f, dif_pos hi]
      exact this
    refine ⟨some a, len, cap, (List.range len).map f, rfl, .inr ⟨a, rfl, hl, by simp, fun i hi => ?_, fun i v hv => ?_, fun v hv => ?_⟩, fun hW => ?_⟩
    · obtain ⟨p, q1, q2⟩ := key2 (i / 2) (by omega)
      rcases Nat.mod_two_eq_zero_or_one i with h9 | h9
      · exact ⟨_, by rw [show i = i / 2 * 2 by omega]; exact q1⟩
      · exact ⟨_, by rw [show i = i / 2 * 2 + 1 by omega]; exact q2⟩
    · have hil := (List.getElem?_eq_some_iff.1 hv).1
      simp at hil
      simp [hil] at hv
      subst hv
      exact ⟨(hf i hil).1, (hf i hil).2.1⟩
    · obtain ⟨i, hi, rfl⟩ := List.mem_map.1 hv
      exact (hf i (by simpa using hi)).2.2
    · have := hW ((elems.length + rest.length) * P.bytesOf e) (by simp [DataW.weights, ht])
      exact Nat.le_trans (Nat.mul_le_mul_right _ (by omega)) this
/-- What a slice of such slices holds. -/
abbrev RowT := Option Addr × Nat × Nat × List (Int × Bool)
def RowS (w : World) (a : Option Addr) (len cap : Nat) (rows : List RowT) : Prop :=
  (a = none ∧ len = 0 ∧ cap = 0 ∧ rows = []) ∨ ∃ x, a = some x ∧ len ≤ cap ∧ rows.length = len ∧ (∀ i, i < cap * 1 → ∃ c, w.cell? (x.add i) = some c) ∧
    ∀ (i : Nat) (r : RowT), rows[i]? = some r → w.cell? (x.add i) = some (.slice r.1 r.2.1 r.2.2.1) ∧ RowP w r.1 r.2.1 r.2.2.1 r.2.2.2
theorem rows_of {tt t e ti tb : TypeId} {f0 f1 : Field} {cs : List Value} {x : DataW H × List MemPlace} (htt : P.underlying tt = some (.slice t)) (ht : P.underlying t = some (.slice e)) (he : P.underlying e = some (.struct #[f0, f1]))
    (h0 : f0.type = ti ∧ f0.offset = 0) (h1 : f1.type = tb ∧ f1.offset = 1) (hi : P.underlying ti = some (.int .i64)) (hb : P.underlying tb = some .bool) (ct : P.cellsOf t = 1) (hc : P.cellsOf e = 2) (ci : P.cellsOf ti = 1) (cb : P.cellsOf tb = 1)
    (h : DataW.trod enc P w base (fun _ => true) held fuel tt cs = some x) (R : Nat) : ∃ a len cap rows, cs = [.slice a len cap] ∧ RowS w a len cap rows ∧ ((∀ n ∈ x.1.weights P tt, n ≤ R) → len * P.bytesOf t ≤ R ∧ ∀ r ∈ rows, r.2.1 * P.bytesOf e ≤ R) := by
  rcases DataW.trod_slice htt h with ⟨rfl, rfl⟩ | ⟨a, len, cap, elems, rest, n, _, rfl, rfl, hba, hl, hm, hlen, hel, hsp, _⟩
  · exact ⟨none, 0, 0, [], rfl, .inl ⟨rfl, rfl, rfl, rfl⟩, fun _ => by simp⟩
  · obtain ⟨hrl, hrest⟩ := hsp rfl
    rw [ct] at hel hrest
    have one : ∀ {ad : Addr} {y : DataW H × List MemPlace}, (w.cells? base ad 1).bind (DataW.trod enc P w base (fun _ => true) held n t) = some y → ∃ r : RowT, w.cell? (ad.add 0) = some (.slice r.1 r.2.1 r.2.2.1) ∧ RowP w r.1 r.2.1 r.2.2.1 r.2.2.2 ∧ ((∀ n ∈ y.1.weights P t, n ≤ R) → r.2.1 * P.bytesOf e ≤ R) := by
      intro ad y hy
      rw [Option.bind_eq_some_iff] at hy
      obtain ⟨vs, hvs, hy⟩ := hy
      obtain ⟨hbl, hvl, hv⟩ := World.cells?_some hvs
      obtain ⟨b, l, c, ws, rfl, q1, q2⟩ := row_of ht he h0 h1 hi hb hc ci cb hy R
      exact ⟨(b, l, c, ws), by simpa using hv 0 (by omega), q1, q2⟩
    have key : ∀ i, i < len → ∃ (r : RowT), (w.cell? (a.add i) = some (.slice r.1 r.2.1 r.2.2.1) ∧ RowP w r.1 r.2.1 r.2.2.1 r.2.2.2) ∧ ∃ y ∈ elems, ((∀ n ∈ y.1.weights P t, n ≤ R) → r.2.1 * P.bytesOf e ≤ R) := fun i hi => by
      have hx := hel i hi
      rw [List.getElem?_eq_getElem (by omega), Nat.mul_one] at hx
      obtain ⟨r, q1, q2, q3⟩ := one hx
      rw [add_add] at q1
      exact ⟨r, ⟨q1, q2⟩, _, List.getElem_mem _, q3⟩
    have key2 : ∀ i, i < cap → ∃ c, w.cell? (a.add i) = some c := fun i hi => by
      by_cases h9 : i < len
      · obtain ⟨r, ⟨q1, _⟩, _⟩ := key i h9
        exact ⟨_, q1⟩
      · have hx := hrest (i - len) (by omega)
        rw [show len + (i - len) = i by omega, List.getElem?_eq_getElem (by omega), Nat.mul_one] at hx
        obtain ⟨r, q1, _⟩ := one hx
        rw [add_add] at q1
        exact ⟨_, q1⟩
    let f : Nat → RowT := fun i => if hi : i < len then (key i hi).choose else (none, 0, 0, [])
    have hf : ∀ i (hi : i < len), (w.cell? (a.add i) = some (.slice (f i).1 (f i).2.1 (f i).2.2.1) ∧ RowP w (f i).1 (f i).2.1 (f i).2.2.1 (f i).2.2.2) ∧ ∃ y ∈ elems, ((∀ n ∈ y.1.weights P t, n ≤ R) → (f i).2.1 * P.bytesOf e ≤ R) := fun i hi => by
      have := (key i hi).choose_spec
      simp only [f, dif_pos hi]
      exact this
    refine ⟨some a, len, cap, (List.range len).map f, rfl, .inr ⟨a, rfl, hl, by simp, fun i hi => key2 i (by omega), fun i r hr => ?_⟩, fun hW => ⟨?_, fun r hr => ?_⟩⟩
    · have hil := (List.getElem?_eq_some_iff.1 hr).1
      simp at hil
      simp [hil] at hr
      subst hr
      exact (hf i hil).1
    · have := hW ((elems.length + rest.length) * P.bytesOf t) (by simp [DataW.weights, htt])
      exact Nat.le_trans (Nat.mul_le_mul_right _ (by omega)) this
    · obtain ⟨i, hi, rfl⟩ := List.mem_map.1 hr
      obtain ⟨_, y, hy, q⟩ := hf i (by simpa using hi)
      refine q fun n hn => hW n ?_
      simp only [DataW.weights, htt, List.mem_cons, List.mem_append]
      exact .inr (.inl (weightsAll_mem (List.mem_map.2 ⟨y, hy, rfl⟩) n hn))
end
variable [Base]
/-- .. as a block. -/
theorem arg_pairs {w : World} {a : Option Addr} {len cap : Nat} {vs : List (Int × Bool)} (hr : RowP w a len cap vs) : ∃ (L : Loc) (b : Blk) (sf : Nat → SV), (∀ (β : Bt) (id : Nat), β id = some L → SRel β (sf id) (.slice a len cap)) ∧ (∀ β : Bt, ArgR β w L b) ∧
    (∀ (h : Heap) (id : Nat), h[id]? = some b → IsSl h (sf id) 2 vs.length (prC vs)) ∧ ∀ v ∈ vs, (Lit.int .i64 v.1).wf = true := by
  rcases hr with ⟨rfl, rfl, rfl, rfl⟩ | ⟨x, rfl, h1, h2, h3, h4, h5⟩
  · exact ⟨⟨0, 0, 0, 2⟩, .dead 2, fun _ => .nilS, fun β id _ => .nilS, fun β => ⟨rfl, ⟨rfl, show (2 : ESz).n < 1000000 by decide⟩, fun cs rw e h => by simp at h⟩, fun h id _ => .inl ⟨rfl, rfl, rfl⟩, by simp⟩
  · obtain ⟨L, g1, g2⟩ := arg_rowc (w := w) (z := 2) ⟨rfl, by decide⟩ (by decide) h1 (fun i hi => h3 i hi)
    refine ⟨L, blkOf (prC vs) 2, fun id => .slc id 0 len none, g1, fun β => g2 β (prC vs) ?_ fun i v hv => ?_, fun h id hg => ?_, h5⟩
    · rw [prC_len, h2]
      exact Nat.mul_le_mul_right 2 h1
    · obtain ⟨p, q1, q2⟩ := prC_at hv
      obtain ⟨k1, k2⟩ := h4 _ p q1
      rcases q2 with ⟨m, rfl⟩ | ⟨m, rfl⟩
      · exact ⟨_, by rw [show i = i / 2 * 2 by omega]; exact k1, .int _ _⟩
      · exact ⟨_, by rw [show i = i / 2 * 2 + 1 by omega]; exact k2, .bool _⟩
    · rw [h2]
      exact blk_sl (by rw [prC_len, h2]; rfl) (by decide) hg
theorem arg_comps {w : World} {a : Option Addr} {len cap : Nat} {rows : List RowT} (hr : RowS w a len cap rows) :
    ∃ (Lo : Loc) (Ls : List Loc) (bo : Nat → Blk) (bs : List Blk) (so : Nat → SV), Ls.length = rows.length ∧ bs.length = rows.length ∧
      (∀ (k : Nat) (β : Bt), β k = some Lo → SRel β (so k) (.slice a len cap)) ∧
      (∀ (k : Nat) (β : Bt), (∀ (i : Nat) (L : Loc), Ls[i]? = some L → β (k + 1 + i) = some L) → ArgR β w Lo (bo k)) ∧
      (∀ (β : Bt) (i : Nat) (L : Loc) (b : Blk), Ls[i]? = some L → bs[i]? = some b → ArgR β w L b) ∧
      (∀ (h : Heap) (k : Nat), h[k]? = some (bo k) → (∀ (i : Nat) (b : Blk), bs[i]? = some b → h[k + 1 + i]? = some b) → ∃ ss : List SV, ss.length = rows.length ∧ IsSl h (so k) 1 ss.length ss ∧
        ∀ (i : Nat) (t : SV) (r : RowT), ss[i]? = some t → rows[i]? = some r → IsSl h t 2 r.2.2.2.length (prC r.2.2.2)) ∧
      ∀ r ∈ rows, ∀ v ∈ r.2.2.2, (Lit.int .i64 v.1).wf = true := by
  rcases hr with ⟨rfl, rfl, rfl, rfl⟩ | ⟨x, rfl, h1, h2, h3, h4⟩
  · exact ⟨⟨0, 0, 0, 1⟩, [], fun _ => .dead 1, [], fun _ => .nilS, rfl, rfl, fun k β _ => .nilS, fun k β _ => ⟨rfl, ⟨rfl, show (1 : ESz).n < 1000000 by decide⟩, fun cs rw e h => by simp at h⟩, fun β i L b h => by simp at h, fun h k _ _ => ⟨[], rfl, .inl ⟨rfl, rfl, rfl⟩, fun i t r h => by simp at h⟩, by simp⟩
  · obtain ⟨Lo, g1, g2⟩ := arg_rowc (w := w) (z := 1) ⟨rfl, by decide⟩ (by decide) h1 (fun i hi => h3 i hi)
    have hP : ∀ i, i < len → ∃ r, rows[i]? = some r := fun i hi => ⟨_, List.getElem?_eq_getElem (by omega)⟩
    have key : ∀ i, i < len → ∃ (p : Loc × Blk × (Nat → SV)), ∀ r, rows[i]? = some r → (∀ (β : Bt) (id : Nat), β id = some p.1 → SRel β (p.2.2 id) (.slice r.1 r.2.1 r.2.2.1)) ∧ (∀ β : Bt, ArgR β w p.1 p.2.1) ∧
        (∀ (h : Heap) (id : Nat), h[id]? = some p.2.1 → IsSl h (p.2.2 id) 2 r.2.2.2.length (prC r.2.2.2)) ∧ ∀ v ∈ r.2.2.2, (Lit.int .i64 v.1).wf = true := fun i hi => by
      obtain ⟨r, hr⟩ := hP i hi
      obtain ⟨L, b, sf, q⟩ := arg_pairs (h4 i r hr).2
      exact ⟨(L, b, sf), fun r' hr' => by rw [hr] at hr'; obtain rfl := Option.some.inj hr'; exact q⟩
    let f : Nat → Loc × Blk × (Nat → SV) := fun i => if hi : i < len then (key i hi).choose else (⟨0, 0, 0, 2⟩, .dead 2, fun _ => .nilS)
    have hf : ∀ i (hi : i < len) r, rows[i]? = some r → (∀ (β : Bt) (id : Nat), β id = some (f i).1 → SRel β ((f i).2.2 id) (.slice r.1 r.2.1 r.2.2.1)) ∧ (∀ β : Bt, ArgR β w (f i).1 (f i).2.1) ∧
        (∀ (h : Heap) (id : Nat), h[id]? = some (f i).2.1 → IsSl h ((f i).2.2 id) 2 r.2.2.2.length (prC r.2.2.2)) ∧ ∀ v ∈ r.2.2.2, (Lit.int .i64 v.1).wf = true := fun i hi => by
      have := (key i hi).choose_spec
      simp only [f, dif_pos hi]
      exact this
    let ss : Nat → List SV := fun k => (List.range len).map fun i => (f i).2.2 (k + 1 + i)
    have hss : ∀ k, (ss k).length = len := fun k => by simp [ss]
    refine ⟨Lo, (List.range len).map fun i => (f i).1, fun k => blkOf (ss k) 1, (List.range len).map fun i => (f i).2.1, fun k => .slc k 0 len none, by simp [h2], by simp [h2], fun k β hb => g1 β k hb, fun k β hb => g2 β (ss k) (by rw [hss]; simpa using h1) fun i v hv => ?_, fun β i L b hL hbk => ?_, fun h k hg hgs => ⟨ss k, by rw [hss, h2], ?_, fun i t r ht hr => ?_⟩, fun r hr v hv => ?_⟩
    · have hil := (List.getElem?_eq_some_iff.1 hv).1
      rw [hss] at hil
      obtain ⟨r, hr⟩ := hP i hil
      simp [ss, hil] at hv
      subst hv
      refine ⟨_, (h4 i r hr).1, (hf i hil r hr).1 β _ (hb i _ ?_)⟩
      simp [hil]
    · have hil := (List.getElem?_eq_some_iff.1 hL).1
      simp at hil
      obtain ⟨r, hr⟩ := hP i hil
      simp [hil] at hL hbk
      subst hL hbk
      exact (hf i hil r hr).2.1 β
    · rw [hss]
      exact blk_sl (by rw [hss]; simp [ESz.one_n]) (by decide) hg
    · have hil := (List.getElem?_eq_some_iff.1 ht).1
      rw [hss] at hil
      simp [ss, hil] at ht
      subst ht
      exact (hf i hil r hr).2.2.1 h _ (hgs i _ (by simp [hil]))
    · obtain ⟨i, hi⟩ := List.mem_iff_getElem?.1 hr
      have hil := (List.getElem?_eq_some_iff.1 hi).1
      exact (hf i (by omega) r hi).2.2.2 v hv
end Go.Ab

