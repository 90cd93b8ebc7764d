/- Structs in memory; loads by what a block holds. -/
import Derived.Test.YtadelcikpkhclaaDoorAb26
namespace Go.Ab
set_option linter.unusedVariables false

/-- Block id holds cs. -/
def Blk.At (h : Heap) (id : Nat) (cs : List SV) : Prop := ∃ rw' z, h[id]? = some (.cells cs rw' z)
theorem Blk.At.ext {h h' : Heap} {id : Nat} {cs : List SV} (hb : Blk.At h id cs) (he : Ext h h') : Blk.At h' id cs :=
  let ⟨rw', z, h1⟩ := hb; ⟨rw', z, he.get _ _ h1⟩
theorem Blk.At.read {h : Heap} {id off n : Nat} {cs vs : List SV} (hb : Blk.At h id cs) (hc : cut cs off n = some vs) : readN h id off n = some vs := by
  obtain ⟨rw', z, h1⟩ := hb
  simp only [readN, h1, hc]
theorem Blk.At.last (h : Heap) (cs : List SV) (rw' : Bool) (z : ESz) : Blk.At (h ++ [.cells cs rw' z]) h.length cs := ⟨rw', z, by simp⟩

section
variable {FT : FuncId → Option AFun} {HK : FuncId → Option Hook} {E : Env} {h : Heap} {K : Env → Heap → Prop} {d : Option Nat} {r : List AOp} {x y : AO}
theorem k_box {v : AV} {cs : List SV} (hx : ev E x = some v) (hc : v.cells = some cs) (hw : ∀ h1, Ext h h1 → h.length < h1.length → Blk.At h1 h.length cs → wOps FT HK r (bindE d (some (.sc (.ptr h.length 0))) E) h1 K) :
    wOps FT HK (⟨d, .box x, none⟩ :: r) E h K :=
  op_ok (v := some (.sc (.ptr h.length 0))) (h' := h ++ [.cells cs true 0]) rfl rfl (by simp only [step1, hx, Option.bind_some, hc, Option.map_some]) (hw _ ⟨_, rfl⟩ (by simp) (Blk.At.last h cs true 0))
theorem k_ldb {id off : Nat} {v : SV} {cs : List SV} (hx : evS E x = some (.ptr id off)) (hb : Blk.At h id cs) (hv : cut cs off 1 = some [v])
    (hw : wOps FT HK r (bindE d (some (.sc v)) E) h K) : wOps FT HK (⟨d, .ld 1 false x, none⟩ :: r) E h K := op_ld rfl hx (hb.read hv) hw
theorem k_ldA {id off n : Nat} {cs vs : List SV} (hx : evS E x = some (.ptr id off)) (hb : Blk.At h id cs) (hv : cut cs off n = some vs)
    (hw : wOps FT HK r (bindE d (some (.agg vs)) E) h K) : wOps FT HK (⟨d, .ld n true x, none⟩ :: r) E h K := op_ldA rfl hx (hb.read hv) hw
theorem k_fldA {id off o : Nat} (hx : evS E x = some (.ptr id o)) (hw : wOps FT HK r (bindE d (some (.sc (.ptr id (o + off)))) E) h K) : wOps FT HK (⟨d, .fldA off x, none⟩ :: r) E h K :=
  op_ok rfl rfl (by simp only [step1, hx]) hw
/-- make, the result as a slice of one's own. -/
theorem k_mkO {h0 : Heap} {bytes : Nat} {z : SV} {n m : Int} {k1 k2 : IntKind} (he : Ext h0 h) (hx : evS E x = some (.int k1 n)) (hy : evS E y = some (.int k2 m)) (hb : 0 ≤ n ∧ n ≤ m ∧ m * (bytes + 1 : Nat) ≤ bigN)
    (hw : ∀ s h1, Own h h1 s (List.replicate n.toNat z) → Ext h h1 → Ext h0 h1 → h.length < h1.length → wOps FT HK r (bindE d (some (.sc s)) E) h1 K) : wOps FT HK (⟨d, .mk 1 bytes [z] x y, none⟩ :: r) E h K := by
  refine k_make hx hy hb fun ho => ?_
  have hr : ∀ k, rep [z] k = List.replicate k z := by
    intro k
    induction k with
    | zero => rfl
    | succ k ih => simp [rep, ih, List.replicate_succ]
  rw [hr n.toNat] at ho
  exact hw _ _ ho ⟨_, rfl⟩ (he.app _) (by simp)
end

/-- A value of a slice of one's own is read. -/
theorem Own.rd {h0 h : Heap} {s : SV} {vs : List SV} {i : Nat} {v : SV} (ho : Own h0 h s vs) (hv : vs[i]? = some v) : ∃ id cap, s = .slc id 0 vs.length cap ∧ readN h id (0 + i * 1) 1 = some [v] := by
  rcases ho with ⟨rfl, rfl⟩ | ⟨id, cap, cs, rfl, h1, h2, h3, h4⟩
  · simp at hv
  · refine ⟨id, cap, rfl, ?_⟩
    have hi := (List.getElem?_eq_some_iff.1 hv).1
    have hl : vs.length ≤ cs.length := by have := congrArg List.length h3; simp at this; omega
    have hc : cs[i]? = some v := by
      rw [← h3, List.getElem?_take_of_lt hi] at hv
      exact hv
    simp only [readN, h2]
    unfold cut
    rw [if_pos (by omega)]
    obtain ⟨h9, h10⟩ := List.getElem?_eq_some_iff.1 hc
    simp only [Nat.zero_add, Nat.mul_one]
    rw [List.drop_eq_getElem_cons h9, h10]; rfl

/-- .. and is written. -/
theorem Own.wr {h0 h : Heap} {s : SV} {vs : List SV} {i : Nat} (he : Ext h0 h) (ho : Own h0 h s vs) (hi : i < vs.length) (v : SV) :
    ∃ id cap h', s = .slc id 0 vs.length cap ∧ writeN h id (0 + i * 1) [v] = some h' ∧ Own h0 h' s (vs.set i v) ∧ Ext h0 h' ∧ Fram h h' s s ∧ h'.length = h.length := by
  rcases ho with ⟨rfl, rfl⟩ | ⟨id, cap, cs, rfl, h1, h2, h3, h4⟩
  · simp at hi
  · have hl : vs.length ≤ cs.length := by have := congrArg List.length h3; simp at this; omega
    have hid : id < h.length := (List.getElem?_eq_some_iff.1 h2).1
    have hsp : splice cs i [v] = cs.set i v := by
      rw [List.set_eq_take_append_cons_drop, if_pos (by omega)]
      simp [splice]
    refine ⟨id, cap, h.set id (.cells (cs.set i v) true 1), rfl, ?_, .inr ⟨id, cap, cs.set i v, by simp, h1, List.getElem?_set_self hid, ?_, ?_⟩, he.set h1 _, ?_, by simp⟩
    · simp only [writeN, h2, Nat.zero_add, Nat.mul_one, List.length_singleton]
      rw [if_pos (by omega), hsp]
    · rw [List.length_set, List.take_set, h3]
    · cases cap with
      | none => simpa [Room] using h4
      | some c => simpa [Room] using h4
    · intro j b hj hn
      have hne : id ≠ j := fun e => by subst e; exact hn _ _ _ rfl
      exact ⟨by rw [List.getElem?_set_ne hne]; exact hj, hn⟩
end Go.Ab
