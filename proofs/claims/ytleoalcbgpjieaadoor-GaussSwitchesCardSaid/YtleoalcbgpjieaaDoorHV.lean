/- The reference's count. -/
import Derived.Test.YtleoalcbgpjieaaDoorGV
import Derived.Test.YtleoalcbgpjieaaDoorVF
namespace Go.Proofs.YtleoalcbgpjieaaDoor
open Go.Ab
set_option linter.unusedVariables false
set_option linter.unusedSimpArgs false
set_option maxRecDepth 20000
attribute [local irreducible] wOps wA wSeq wBlk wRound wOpsD

def cn (F : List Vis) (u : Vis) : Nat := F.countP fun v => decide (v = u)
theorem cn_app (a b : List Vis) (u : Vis) : cn (a ++ b) u = cn a u + cn b u := by simp [cn]
theorem cn_le (F : List Vis) (u : Vis) : cn F u ≤ F.length := List.countP_le_length
theorem cn_one (v u : Vis) : cn [v] u = if v = u then 1 else 0 := by
  unfold cn
  by_cases h : v = u
  · simp [h]
  · simp [h]
def I40v (hb : Heap) (q : Nat) (u : Vis) (F : List Vis) (i : Nat) (vs : List Vis) (E : Env) (h : Heap) : Prop := ∃ k : Nat, k ≤ vs.length ∧ Ext hb h ∧
  E = [(1, some (.sc (.int .i64 u.1))), (2, some (.sc (.bool u.2))), (3, some (.sc (.ptr q 0))), (7, some (.sc (.int .i64 (cn (F ++ vs.take k) u : Nat)))), (8, some (.sc (.int .i64 (i : Nat)))), (9, some (.sc (.int .i64 (k : Nat))))]
def R40v (hb : Heap) (q : Nat) (u : Vis) (F : List Vis) (i : Nat) (vs : List Vis) (ex : Ex) (E : Env) (h : Heap) : Prop := ex = .ex 2 ∧ Ext hb h ∧ ∃ a b,
  E = [(1, some (.sc (.int .i64 u.1))), (2, some (.sc (.bool u.2))), (3, some (.sc (.ptr q 0))), (7, some (.sc (.int .i64 (cn (F ++ vs) u : Nat)))), (8, some (.sc (.int .i64 (i : Nat)))), (9, a), (25, b)]
def I40c (hb : Heap) (q : Nat) (u : Vis) (g : GC) (E : Env) (h : Heap) : Prop := ∃ i : Nat, i ≤ g.C.length ∧ Ext hb h ∧
  E = [(1, some (.sc (.int .i64 u.1))), (2, some (.sc (.bool u.2))), (3, some (.sc (.ptr q 0))), (7, some (.sc (.int .i64 (cn (g.C.take i).flatten u : Nat)))), (8, some (.sc (.int .i64 (i : Nat))))]
def R40c (hb : Heap) (u : Vis) (g : GC) (ex : Ex) (E : Env) (h : Heap) : Prop := ex = .ex 0 ∧ Ext hb h ∧ ∃ a b c d e,
  E = [(1, a), (2, b), (3, c), (7, some (.sc (.int .i64 (cn g.C.flatten u : Nat)))), (8, d), (15, e)]
end Go.Proofs.YtleoalcbgpjieaaDoor


namespace Go.Proofs.YtleoalcbgpjieaaDoor
open Go.Ab
set_option linter.unusedVariables false
set_option linter.unusedSimpArgs false
set_option maxRecDepth 20000
attribute [local irreducible] wOps wA wSeq wBlk wRound wOpsD

theorem fit_any {α : Type} [DecidableEq α] : ∀ {ys T : List α}, ys.Nodup → (∀ y ∈ ys, y ∈ T) → ys.length ≤ T.length
  | [], _, _, _ => by simp
  | y :: ys, T, hn, hs => by
    have hy := hs y (by simp)
    have h1 : ∀ z ∈ ys, z ∈ T.erase y := fun z hz => by
      have hne : z ≠ y := fun he => by subst he; exact (List.nodup_cons.1 hn).1 hz
      exact (List.mem_erase_of_ne hne).2 (hs z (by simp [hz]))
    have h2 := fit_any (List.nodup_cons.1 hn).2 h1
    rw [List.length_erase_of_mem hy] at h2
    have := List.length_pos_of_mem hy
    simp; omega
def pairsN : Nat → List Vis
  | 0 => []
  | n + 1 => ((n : Int), true) :: ((n : Int), false) :: pairsN n
theorem pairsN_len : ∀ n, (pairsN n).length = 2 * n
  | 0 => rfl
  | n + 1 => by simp [pairsN, pairsN_len n]; omega
theorem pairsN_mem : ∀ {n : Nat} {v : Vis}, v ∈ pairsN n ↔ 0 ≤ v.1 ∧ v.1 < n
  | 0, v => by simp only [pairsN, List.not_mem_nil, false_iff]; omega
  | n + 1, v => by
    simp only [pairsN, List.mem_cons, pairsN_mem (n := n)]
    rcases v with ⟨a, b⟩
    constructor
    · rintro (h | h | h)
      · simp only [Prod.mk.injEq] at h; obtain ⟨rfl, -⟩ := h; simp; omega
      · simp only [Prod.mk.injEq] at h; obtain ⟨rfl, -⟩ := h; simp; omega
      · simp only at h ⊢; omega
    · rintro ⟨h1, h2⟩
      simp only at h1 h2
      by_cases h : a = n
      · subst h
        cases b
        · exact .inr (.inl rfl)
        · exact .inl rfl
      · exact .inr (.inr ⟨h1, by simp only; omega⟩)
theorem visited {n : Nat} {F : List Vis} (h1 : ∀ v ∈ F, 0 ≤ v.1 ∧ v.1 < n) (h2 : F.Nodup) (h3 : F.length = 2 * n) {v : Vis} (hv : 0 ≤ v.1 ∧ v.1 < n) : v ∈ F := by
  refine Classical.byContradiction fun hn => ?_
  have := fit_any (T := pairsN n) (List.nodup_cons.2 ⟨hn, h2⟩) (fun y hy => by
    rcases List.mem_cons.1 hy with rfl | hy
    · exact pairsN_mem.2 hv
    · exact pairsN_mem.2 (h1 y hy))
  rw [pairsN_len, List.length_cons, h3] at this
  omega
/-! ### Plainly: both conditions are the same -/
theorem cn_cons (v : Vis) (r : List Vis) (u : Vis) : cn (v :: r) u = (if v = u then 1 else 0) + cn r u := by
  rw [show v :: r = [v] ++ r from rfl, cn_app, cn_one]
theorem cn_mem {F : List Vis} {u : Vis} : 0 < cn F u ↔ u ∈ F := by
  unfold cn
  rw [List.countP_pos_iff]
  constructor
  · rintro ⟨a, h1, h2⟩; simp at h2; subst h2; exact h1
  · exact fun h => ⟨u, h, by simp⟩
theorem nodup_cn : ∀ {F : List Vis}, (∀ v ∈ F, cn F v ≤ 1) → F.Nodup
  | [], _ => List.nodup_nil
  | v :: r, h => by
    refine List.nodup_cons.2 ⟨fun hm => ?_, nodup_cn fun u hu => ?_⟩
    · have h1 := h v (by simp)
      rw [cn_cons, if_pos rfl] at h1
      have := cn_mem.2 hm
      omega
    · have h1 := h u (by simp [hu])
      rw [cn_cons] at h1
      omega
theorem cn_nodup : ∀ {F : List Vis}, F.Nodup → ∀ v, cn F v ≤ 1
  | [], _, v => by simp [cn]
  | u :: r, h, v => by
    obtain ⟨h1, h2⟩ := List.nodup_cons.1 h
    have ih := cn_nodup h2 v
    rw [cn_cons]
    by_cases e : u = v
    · subst e
      have : cn r u = 0 := by
        rcases Nat.eq_zero_or_pos (cn r u) with h | h
        · exact h
        · exact absurd (cn_mem.1 h) h1
      rw [if_pos rfl]; omega
    · rw [if_neg e]; omega
theorem pairsN_nodup : ∀ n, (pairsN n).Nodup
  | 0 => List.nodup_nil
  | n + 1 => by
    have hn : ∀ o : Bool, ((n : Int), o) ∉ pairsN n := fun o h => by have := pairsN_mem.1 h; simp only at this; omega
    refine List.nodup_cons.2 ⟨fun h => ?_, List.nodup_cons.2 ⟨hn false, pairsN_nodup n⟩⟩
    rcases List.mem_cons.1 h with h | h
    · simp at h
    · exact hn true h
def VR (g : GC) : Prop := g.S.length ≤ 64 ∧ (0 ≤ g.L ∧ g.L ≤ 64) ∧ (∀ c ∈ g.C, c ≠ []) ∧ (∀ x : Nat, x < g.S.length → (g.S.getD x 0 = 1 ∨ g.S.getD x 0 = -1) ∧ cn g.C.flatten ((x : Int), true) = 1 ∧ cn g.C.flatten ((x : Int), false) = 1) ∧ g.C.flatten.length = 2 * g.S.length
theorem vr_vg (g : GC) : VR g ↔ VG g := by
  constructor
  · rintro ⟨h1, h2, h3, h4, h5⟩
    have hall : ∀ v, (0 ≤ v.1 ∧ v.1 < (g.S.length : Int)) → cn g.C.flatten v = 1 := fun v hv => by
      obtain ⟨-, a, b⟩ := h4 v.1.toNat (by omega)
      have e : ((v.1.toNat : Nat) : Int) = v.1 := by omega
      rw [e] at a b
      rcases v with ⟨c, o⟩
      cases o
      · exact b
      · exact a
    have hrg : ∀ v ∈ g.C.flatten, 0 ≤ v.1 ∧ v.1 < (g.S.length : Int) := fun v hv => by
      refine Classical.byContradiction fun hn => ?_
      have hnp : v ∉ pairsN g.S.length := fun h => hn (pairsN_mem.1 h)
      have := fit_any (ys := v :: pairsN g.S.length) (T := g.C.flatten) (List.nodup_cons.2 ⟨hnp, pairsN_nodup _⟩) (fun y hy => by
        rcases List.mem_cons.1 hy with rfl | hy
        · exact hv
        · exact cn_mem.1 (by rw [hall y (pairsN_mem.1 hy)]; omega))
      rw [List.length_cons, pairsN_len] at this
      omega
    refine ⟨h1, h2, fun s hs => ?_, h3, hrg, nodup_cn fun v hv => by rw [hall v (hrg v hv)]; omega, h5⟩
    obtain ⟨i, hi⟩ := List.mem_iff_getElem?.1 hs
    have := (h4 i (List.getElem?_eq_some_iff.1 hi).1).1
    rwa [List.getD_eq_getElem?_getD, hi] at this
  · rintro ⟨h1, h2, h3, h4, h5, h6, h7⟩
    refine ⟨h1, h2, h4, fun x hx => ⟨?_, ?_, ?_⟩, h7⟩
    · have : g.S.getD x 0 ∈ g.S := by
        rw [List.getD_eq_getElem?_getD, List.getElem?_eq_getElem hx]
        exact List.getElem_mem _
      exact h3 _ this
    · have a := cn_nodup h6 ((x : Int), true)
      have b := cn_mem.2 (visited h5 h6 h7 (v := ((x : Int), true)) (by simp; omega))
      omega
    · have a := cn_nodup h6 ((x : Int), false)
      have b := cn_mem.2 (visited h5 h6 h7 (v := ((x : Int), false)) (by simp; omega))
      omega

/-! ### The walk -/
def I20c (h0 : Heap) (q : Nat) (g : GC) (E : Env) (h : Heap) : Prop := ∃ i : Nat, i ≤ g.C.length ∧ h = h0 ∧ (∀ c ∈ g.C.take i, c ≠ []) ∧
  E = [(1, some (.sc (.ptr q 0))), (3, some (.sc (.int .i64 (g.S.length : Nat)))), (4, some (.sc (.int .i64 ((g.C.take i).flatten.length : Nat)))), (5, some (.sc (.int .i64 (i : Nat))))]
def R20c (h0 : Heap) (q : Nat) (g : GC) (ex : Ex) (E : Env) (h : Heap) : Prop := h = h0 ∧ match ex with
  | .rt => E = [(2, some (.sc (.bool false)))] ∧ ¬ VR g
  | .ex z => z = 0 ∧ (∀ c ∈ g.C, c ≠ []) ∧ ∃ a b, E = [(1, some (.sc (.ptr q 0))), (3, some (.sc (.int .i64 (g.S.length : Nat)))), (4, some (.sc (.int .i64 (g.C.flatten.length : Nat)))), (5, a), (26, b)]
  | .nm => False
def Ok20 (g : GC) (x : Nat) : Prop := (g.S.getD x 0 = 1 ∨ g.S.getD x 0 = -1) ∧ cn g.C.flatten ((x : Int), true) = 1 ∧ cn g.C.flatten ((x : Int), false) = 1
def I20x (h0 : Heap) (q : Nat) (g : GC) (m : Int) (E : Env) (h : Heap) : Prop := ∃ x : Nat, x ≤ g.S.length ∧ Ext h0 h ∧ (∀ y, y < x → Ok20 g y) ∧
  E = [(1, some (.sc (.ptr q 0))), (3, some (.sc (.int .i64 (g.S.length : Nat)))), (4, some (.sc (.int .i64 m))), (6, some (.sc (.int .i64 (x : Nat))))]
def R20x (h0 : Heap) (g : GC) (m : Int) (ex : Ex) (E : Env) (h : Heap) : Prop := Ext h0 h ∧ match ex with
  | .rt => E = [(2, some (.sc (.bool false)))] ∧ ¬ VR g
  | .ex z => z = 2 ∧ (∀ y, y < g.S.length → Ok20 g y) ∧ ∃ a b c, E = [(1, a), (3, some (.sc (.int .i64 (g.S.length : Nat)))), (4, some (.sc (.int .i64 m))), (6, b), (46, c)]
  | .nm => False
end Go.Proofs.YtleoalcbgpjieaaDoor

