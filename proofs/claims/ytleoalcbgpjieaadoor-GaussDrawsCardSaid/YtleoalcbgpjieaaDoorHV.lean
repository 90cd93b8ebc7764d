/- The reference's Valid: its contract. -/
import Derived.Test.YtleoalcbgpjieaaDoorHC
import Derived.Test.YtleoalcbgpjieaaDoorVF
namespace Go.Proofs.YtleoalcbgpjieaaDoor
open Go.Ab
set_option linter.unusedVariables false
set_option linter.unusedSimpArgs false
set_option maxRecDepth 20000
attribute [local irreducible] wOps wA wSeq wBlk wRound wOpsD

theorem fit_any {α : Type} [DecidableEq α] : ∀ {ys T : List α}, ys.Nodup → (∀ y ∈ ys, y ∈ T) → ys.length ≤ T.length
  | [], _, _, _ => by simp
  | y :: ys, T, hn, hs => by
    have hy := hs y (by simp)
    have h1 : ∀ z ∈ ys, z ∈ T.erase y := fun z hz => by
      have hne : z ≠ y := fun he => by subst he; exact (List.nodup_cons.1 hn).1 hz
      exact (List.mem_erase_of_ne hne).2 (hs z (by simp [hz]))
    have h2 := fit_any (List.nodup_cons.1 hn).2 h1
    rw [List.length_erase_of_mem hy] at h2
    have := List.length_pos_of_mem hy
    simp; omega
def pairsN : Nat → List Vis
  | 0 => []
  | n + 1 => ((n : Int), true) :: ((n : Int), false) :: pairsN n
theorem pairsN_len : ∀ n, (pairsN n).length = 2 * n
  | 0 => rfl
  | n + 1 => by simp [pairsN, pairsN_len n]; omega
theorem pairsN_mem : ∀ {n : Nat} {v : Vis}, v ∈ pairsN n ↔ 0 ≤ v.1 ∧ v.1 < n
  | 0, v => by simp only [pairsN, List.not_mem_nil, false_iff]; omega
  | n + 1, v => by
    simp only [pairsN, List.mem_cons, pairsN_mem (n := n)]
    rcases v with ⟨a, b⟩
    constructor
    · rintro (h | h | h)
      · simp only [Prod.mk.injEq] at h; obtain ⟨rfl, -⟩ := h; simp; omega
      · simp only [Prod.mk.injEq] at h; obtain ⟨rfl, -⟩ := h; simp; omega
      · simp only at h ⊢; omega
    · rintro ⟨h1, h2⟩
      simp only at h1 h2
      by_cases h : a = n
      · subst h
        cases b
        · exact .inr (.inl rfl)
        · exact .inl rfl
      · exact .inr (.inr ⟨h1, by simp only; omega⟩)
theorem visited {n : Nat} {F : List Vis} (h1 : ∀ v ∈ F, 0 ≤ v.1 ∧ v.1 < n) (h2 : F.Nodup) (h3 : F.length = 2 * n) {v : Vis} (hv : 0 ≤ v.1 ∧ v.1 < n) : v ∈ F := by
  refine Classical.byContradiction fun hn => ?_
  have := fit_any (T := pairsN n) (List.nodup_cons.2 ⟨hn, h2⟩) (fun y hy => by
    rcases List.mem_cons.1 hy with rfl | hy
    · exact pairsN_mem.2 hv
    · exact pairsN_mem.2 (h1 y hy))
  rw [pairsN_len, List.length_cons, h3] at this
  omega
/-! ### Plainly: both conditions are the same -/
theorem cn_cons (v : Vis) (r : List Vis) (u : Vis) : cn (v :: r) u = (if v = u then 1 else 0) + cn r u := by
  rw [show v :: r = [v] ++ r from rfl, cn_app, cn_one]
theorem cn_mem {F : List Vis} {u : Vis} : 0 < cn F u ↔ u ∈ F := by
  unfold cn
  rw [List.countP_pos_iff]
  constructor
  · rintro ⟨a, h1, h2⟩; simp at h2; subst h2; exact h1
  · exact fun h => ⟨u, h, by simp⟩
theorem nodup_cn : ∀ {F : List Vis}, (∀ v ∈ F, cn F v ≤ 1) → F.Nodup
  | [], _ => List.nodup_nil
  | v :: r, h => by
    refine List.nodup_cons.2 ⟨fun hm => ?_, nodup_cn fun u hu => ?_⟩
    · have h1 := h v (by simp)
      rw [cn_cons, if_pos rfl] at h1
      have := cn_mem.2 hm
      omega
    · have h1 := h u (by simp [hu])
      rw [cn_cons] at h1
      omega
theorem cn_nodup : ∀ {F : List Vis}, F.Nodup → ∀ v, cn F v ≤ 1
  | [], _, v => by simp [cn]
  | u :: r, h, v => by
    obtain ⟨h1, h2⟩ := List.nodup_cons.1 h
    have ih := cn_nodup h2 v
    rw [cn_cons]
    by_cases e : u = v
    · subst e
      have : cn r u = 0 := by
        rcases Nat.eq_zero_or_pos (cn r u) with h | h
        · exact h
        · exact absurd (cn_mem.1 h) h1
      rw [if_pos rfl]; omega
    · rw [if_neg e]; omega
theorem pairsN_nodup : ∀ n, (pairsN n).Nodup
  | 0 => List.nodup_nil
  | n + 1 => by
    have hn : ∀ o : Bool, ((n : Int), o) ∉ pairsN n := fun o h => by have := pairsN_mem.1 h; simp only at this; omega
    refine List.nodup_cons.2 ⟨fun h => ?_, List.nodup_cons.2 ⟨hn false, pairsN_nodup n⟩⟩
    rcases List.mem_cons.1 h with h | h
    · simp at h
    · exact hn true h
def VR (g : GC) : Prop := g.S.length ≤ 64 ∧ (0 ≤ g.L ∧ g.L ≤ 64) ∧ (∀ c ∈ g.C, c ≠ []) ∧ (∀ x : Nat, x < g.S.length → (g.S.getD x 0 = 1 ∨ g.S.getD x 0 = -1) ∧ cn g.C.flatten ((x : Int), true) = 1 ∧ cn g.C.flatten ((x : Int), false) = 1) ∧ g.C.flatten.length = 2 * g.S.length
theorem vr_vg (g : GC) : VR g ↔ VG g := by
  constructor
  · rintro ⟨h1, h2, h3, h4, h5⟩
    have hall : ∀ v, (0 ≤ v.1 ∧ v.1 < (g.S.length : Int)) → cn g.C.flatten v = 1 := fun v hv => by
      obtain ⟨-, a, b⟩ := h4 v.1.toNat (by omega)
      have e : ((v.1.toNat : Nat) : Int) = v.1 := by omega
      rw [e] at a b
      rcases v with ⟨c, o⟩
      cases o
      · exact b
      · exact a
    have hrg : ∀ v ∈ g.C.flatten, 0 ≤ v.1 ∧ v.1 < (g.S.length : Int) := fun v hv => by
      refine Classical.byContradiction fun hn => ?_
      have hnp : v ∉ pairsN g.S.length := fun h => hn (pairsN_mem.1 h)
      have := fit_any (ys := v :: pairsN g.S.length) (T := g.C.flatten) (List.nodup_cons.2 ⟨hnp, pairsN_nodup _⟩) (fun y hy => by
        rcases List.mem_cons.1 hy with rfl | hy
        · exact hv
        · exact cn_mem.1 (by rw [hall y (pairsN_mem.1 hy)]; omega))
      rw [List.length_cons, pairsN_len] at this
      omega
    refine ⟨h1, h2, fun s hs => ?_, h3, hrg, nodup_cn fun v hv => by rw [hall v (hrg v hv)]; omega, h5⟩
    obtain ⟨i, hi⟩ := List.mem_iff_getElem?.1 hs
    have := (h4 i (List.getElem?_eq_some_iff.1 hi).1).1
    rwa [List.getD_eq_getElem?_getD, hi] at this
  · rintro ⟨h1, h2, h3, h4, h5, h6, h7⟩
    refine ⟨h1, h2, h4, fun x hx => ⟨?_, ?_, ?_⟩, h7⟩
    · have : g.S.getD x 0 ∈ g.S := by
        rw [List.getD_eq_getElem?_getD, List.getElem?_eq_getElem hx]
        exact List.getElem_mem _
      exact h3 _ this
    · have a := cn_nodup h6 ((x : Int), true)
      have b := cn_mem.2 (visited h5 h6 h7 (v := ((x : Int), true)) (by simp; omega))
      omega
    · have a := cn_nodup h6 ((x : Int), false)
      have b := cn_mem.2 (visited h5 h6 h7 (v := ((x : Int), false)) (by simp; omega))
      omega

/-! ### The walk -/
def I20c (h0 : Heap) (q : Nat) (g : GC) (E : Env) (h : Heap) : Prop := ∃ i : Nat, i ≤ g.C.length ∧ h = h0 ∧ (∀ c ∈ g.C.take i, c ≠ []) ∧
  E = [(1, some (.sc (.ptr q 0))), (3, some (.sc (.int .i64 (g.S.length : Nat)))), (4, some (.sc (.int .i64 ((g.C.take i).flatten.length : Nat)))), (5, some (.sc (.int .i64 (i : Nat))))]
def R20c (h0 : Heap) (q : Nat) (g : GC) (ex : Ex) (E : Env) (h : Heap) : Prop := h = h0 ∧ match ex with
  | .rt => E = [(2, some (.sc (.bool false)))] ∧ ¬ VR g
  | .ex z => z = 0 ∧ (∀ c ∈ g.C, c ≠ []) ∧ ∃ a b, E = [(1, some (.sc (.ptr q 0))), (3, some (.sc (.int .i64 (g.S.length : Nat)))), (4, some (.sc (.int .i64 (g.C.flatten.length : Nat)))), (5, a), (26, b)]
  | .nm => False
theorem round20c (h0 : Heap) (q : Nat) (X Y Z : SV) (g : GC) (hf : GFits g) (hX : IsComps h0 X g.C) (hq : Blk.At h0 q [X, Y, Z]) (E : Env) (h : Heap) (hJ : I20c h0 q g E h) :
    wA FT HKt b20L0 (E.keep [1, 3, 4, 5]) h (wRound (I20c h0 q g) (cnt g.C.length 5) (cnt g.C.length 5 E h) (R20c h0 q g)) := by
  obtain ⟨i, hi, rfl, hne, rfl⟩ := hJ
  have lX := hX.len
  have hc := hf.c
  have hfl := flat_le (C := g.C) i
  have hfv := hf.v
  by_cases hlt : i < g.C.length
  · obtain ⟨vs, hx⟩ : ∃ vs, g.C[i]? = some vs := ⟨_, List.getElem?_eq_getElem hlt⟩
    obtain ⟨id, off, cap, t, rfl, hrd, it⟩ := hX.at hx
    have lt := it.len
    have eF := flat_snoc hx
    have hfl2 := flat_le (C := g.C) (i + 1)
    rw [eF, List.length_append] at hfl2
    by_cases hv0 : vs = []
    · have hno : ¬ VR g := fun hg => hg.2.2.1 vs (List.mem_of_getElem? hx) hv0
      subst hv0
      have lt0 : lenS false t = some (0 : Int) := lt
      repeat' (first | refine w_seq ?_ | refine w_seqN ?_ | refine w_seqR ?_ | refine w_blk ?_ | refine w_blkR ?_ | refine w_skip ?_ | refine w_ret ?_ | refine w_ops ?_ | ((refine i_cond ?_); refine w_condT rfl ?_) | ((refine i_nil ?_); first | refine w_end1 rfl ?_ | refine w_end5 rfl rfl rfl rfl rfl ?_) | ((refine i_cons ?_); first | refine k_fldA rfl ?_ | refine k_ldb rfl hq rfl ?_ | refine k_len rfl lX ?_ | refine k_idxA rfl rfl (by omega) ?_ | refine k_ld rfl hrd ?_ | refine k_len rfl lt0 ?_ | refine k_mv rfl ?_ | refine k_lssT rfl rfl (by omega) ?_ | refine k_eqlT rfl rfl (by omega) ?_))
      exact w_roundR ⟨rfl, rfl, hno⟩
    · have hpos : 0 < vs.length := List.length_pos_iff.2 hv0
      have hne' : ∀ c ∈ g.C.take (i + 1), c ≠ [] := fun c hc => by
        rw [take_snoc hx] at hc
        rcases List.mem_append.1 hc with hc | hc
        · exact hne c hc
        · simp only [List.mem_singleton] at hc; subst hc; exact hv0
      have ec : (((g.C.take (i + 1)).flatten.length : Nat) : Int) = ((g.C.take i).flatten.length : Int) + (vs.length : Int) := by rw [eF, List.length_append]; omega
      repeat' (first | refine w_seq ?_ | refine w_seqN ?_ | refine w_blk ?_ | refine w_blkN ?_ | refine w_skip ?_ | refine w_ops ?_ | ((refine i_cond ?_); first | refine w_condT rfl ?_ | refine w_condF rfl ?_) | ((refine i_nil ?_); first | refine w_end4 rfl rfl rfl rfl ?_ | refine w_end5 rfl rfl rfl rfl rfl ?_) | ((refine i_cons ?_); first | refine k_fldA rfl ?_ | refine k_ldb rfl hq rfl ?_ | refine k_len rfl lX ?_ | refine k_idxA rfl rfl (by omega) ?_ | refine k_ld rfl hrd ?_ | refine k_len rfl lt ?_ | refine k_mv rfl ?_ | refine k_add rfl rfl (by omega) ?_ | refine k_lssT rfl rfl (by omega) ?_ | refine k_eqlF rfl rfl (by omega) ?_))
      exact w_roundN ⟨i + 1, by omega, rfl, hne', by rw [ec]; rfl⟩ (by simp [cnt, Env.get]; omega)
  · have hie : i = g.C.length := by omega
    subst hie
    rw [List.take_length] at hne ⊢
    repeat' (first | refine w_seq ?_ | refine w_seqN ?_ | refine w_seqX ?_ | refine w_exit ?_ | refine w_ops ?_ | ((refine i_cond ?_); refine w_condF rfl ?_) | ((refine i_nil ?_); refine w_end5 rfl rfl rfl rfl rfl ?_) | ((refine i_cons ?_); first | refine k_fldA rfl ?_ | refine k_ldb rfl hq rfl ?_ | refine k_len rfl lX ?_ | refine k_mv rfl ?_ | refine k_lssF rfl rfl (by omega) ?_))
    exact w_roundX ⟨rfl, rfl, hne, _, _, rfl⟩
def Ok20 (g : GC) (x : Nat) : Prop := (g.S.getD x 0 = 1 ∨ g.S.getD x 0 = -1) ∧ cn g.C.flatten ((x : Int), true) = 1 ∧ cn g.C.flatten ((x : Int), false) = 1
def I20x (h0 : Heap) (q : Nat) (g : GC) (m : Int) (E : Env) (h : Heap) : Prop := ∃ x : Nat, x ≤ g.S.length ∧ Ext h0 h ∧ (∀ y, y < x → Ok20 g y) ∧
  E = [(1, some (.sc (.ptr q 0))), (3, some (.sc (.int .i64 (g.S.length : Nat)))), (4, some (.sc (.int .i64 m))), (6, some (.sc (.int .i64 (x : Nat))))]
def R20x (h0 : Heap) (g : GC) (m : Int) (ex : Ex) (E : Env) (h : Heap) : Prop := Ext h0 h ∧ match ex with
  | .rt => E = [(2, some (.sc (.bool false)))] ∧ ¬ VR g
  | .ex z => z = 2 ∧ (∀ y, y < g.S.length → Ok20 g y) ∧ ∃ a b c, E = [(1, a), (3, some (.sc (.int .i64 (g.S.length : Nat)))), (4, some (.sc (.int .i64 m))), (6, b), (46, c)]
  | .nm => False
set_option maxHeartbeats 8000000 in
theorem round20x (h0 : Heap) (q : Nat) (X Sg : SV) (g : GC) (m : Int) (hf : GFits g) (hc : IsCode h0 X Sg g) (hq : Blk.At h0 q [X, Sg, .int .i64 g.L]) (E : Env) (h : Heap) (hJ : I20x h0 q g m E h) :
    wA FT HKt b20L1 (E.keep [1, 3, 4, 6]) h (wRound (I20x h0 q g m) (cnt g.S.length 6) (cnt g.S.length 6 E h) (R20x h0 g m)) := by
  obtain ⟨x, hx, e, hok, rfl⟩ := hJ
  have hsl := hf.s
  have bq := hq.ext e
  have cc := hc.ext e
  by_cases hlt : x < g.S.length
  · obtain ⟨s, hxs⟩ : ∃ s, g.S[x]? = some s := ⟨_, List.getElem?_eq_getElem hlt⟩
    have hgd : g.S.getD x 0 = s := by rw [List.getD_eq_getElem?_getD, hxs]; rfl
    obtain ⟨id, off, cap, rfl, hrd⟩ := IsInts.at cc.s hxs
    have no : ¬ Ok20 g x → ¬ VR g := fun h hv => h (hv.2.2.2.1 x hlt)
    have k1 := fun h hh => call40 h X (.slc id off g.S.length cap) g hf hh (x : Int) true
    have k2 := fun h hh => call40 h X (.slc id off g.S.length cap) g hf hh (x : Int) false
    by_cases hs1 : s = 1
    · by_cases c1 : cn g.C.flatten ((x : Int), true) = 1
      · have c1' : ((cn g.C.flatten ((x : Int), true) : Nat) : Int) = 1 := by omega
        by_cases c2 : cn g.C.flatten ((x : Int), false) = 1
        · have c2' : ((cn g.C.flatten ((x : Int), false) : Nat) : Int) = 1 := by omega
          have hok' : ∀ y, y < x + 1 → Ok20 g y := fun y hy => by
            by_cases hyx : y = x
            · subst hyx; exact ⟨by rw [hgd]; exact .inl hs1, c1, c2⟩
            · exact hok y (by omega)
          repeat' (first | refine w_seq ?_ | refine w_seqN ?_ | refine w_blk ?_ | refine w_blkN ?_ | refine w_skip ?_ | refine w_ops ?_ | ((refine i_cond ?_); first | refine w_condT rfl ?_ | refine w_condF rfl ?_) | ((refine i_nil ?_); first | refine w_end4 rfl rfl rfl rfl ?_ | refine w_end5 rfl rfl rfl rfl rfl ?_) | ((refine i_cons ?_); first | refine k_fldA rfl ?_ | refine k_ldb rfl bq rfl ?_ | (refine k_ldA rfl bq rfl ?_) | refine k_idxA rfl rfl (by omega) ?_ | refine k_ld rfl hrd ?_ | (have bq1' := bq1; refine k_ldA rfl bq1 rfl ?_) | (have e1' := e1; refine k_call rfl (k2 _ (cc.ext e1)) ?_; rintro v h2 ⟨e2, rfl⟩) | (refine k_call rfl (k1 _ cc) ?_; rintro v h1 ⟨e1, rfl⟩; have bq1 := bq.ext e1) | refine k_skip rfl ?_ | refine k_want rfl ?_ | refine k_mv rfl ?_ | refine k_pickF rfl rfl ?_ | refine k_add rfl rfl (by omega) ?_ | refine k_lssT rfl rfl (by omega) ?_ | refine k_neqF rfl rfl (by omega) ?_))
          exact w_roundN ⟨x + 1, by omega, (e.trans e1).trans e2, hok', rfl⟩ (by simp [cnt, Env.get]; omega)
        · have hno := no fun h => c2 h.2.2
          have c2' : ((cn g.C.flatten ((x : Int), false) : Nat) : Int) ≠ 1 := by omega
          repeat' (first | refine w_seq ?_ | refine w_seqN ?_ | refine w_seqR ?_ | refine w_blk ?_ | refine w_blkR ?_ | refine w_skip ?_ | refine w_ret ?_ | refine w_ops ?_ | ((refine i_cond ?_); refine w_condT rfl ?_) | ((refine i_nil ?_); first | refine w_end1 rfl ?_ | refine w_end5 rfl rfl rfl rfl rfl ?_) | ((refine i_cons ?_); first | refine k_fldA rfl ?_ | refine k_ldb rfl bq rfl ?_ | (refine k_ldA rfl bq rfl ?_) | refine k_idxA rfl rfl (by omega) ?_ | refine k_ld rfl hrd ?_ | (have bq1' := bq1; refine k_ldA rfl bq1 rfl ?_) | (have e1' := e1; refine k_call rfl (k2 _ (cc.ext e1)) ?_; rintro v h2 ⟨e2, rfl⟩) | (refine k_call rfl (k1 _ cc) ?_; rintro v h1 ⟨e1, rfl⟩; have bq1 := bq.ext e1) | refine k_skip rfl ?_ | refine k_want rfl ?_ | refine k_mv rfl ?_ | refine k_pickF rfl rfl ?_ | refine k_lssT rfl rfl (by omega) ?_ | refine k_neqT rfl rfl (by omega) ?_ | refine k_neqF rfl rfl (by omega) ?_))
          exact w_roundR ⟨(e.trans e1).trans e2, rfl, hno⟩
      · have hno := no fun h => c1 h.2.1
        have c1' : ((cn g.C.flatten ((x : Int), true) : Nat) : Int) ≠ 1 := by omega
        repeat' (first | refine w_seq ?_ | refine w_seqN ?_ | refine w_seqR ?_ | refine w_blk ?_ | refine w_blkR ?_ | refine w_skip ?_ | refine w_ret ?_ | refine w_ops ?_ | ((refine i_cond ?_); refine w_condT rfl ?_) | ((refine i_nil ?_); first | refine w_end1 rfl ?_ | refine w_end5 rfl rfl rfl rfl rfl ?_) | ((refine i_cons ?_); first | refine k_fldA rfl ?_ | refine k_ldb rfl bq rfl ?_ | (refine k_ldA rfl bq rfl ?_) | refine k_idxA rfl rfl (by omega) ?_ | refine k_ld rfl hrd ?_ | (refine k_call rfl (k1 _ cc) ?_; rintro v h1 ⟨e1, rfl⟩) | refine k_skip rfl ?_ | refine k_want rfl ?_ | refine k_mv rfl ?_ | refine k_pickT rfl rfl ?_ | refine k_pickF rfl rfl ?_ | refine k_lssT rfl rfl (by omega) ?_ | refine k_neqT rfl rfl (by omega) ?_ | refine k_neqF rfl rfl (by omega) ?_))
        exact w_roundR ⟨e.trans e1, rfl, hno⟩
    · by_cases hs2 : s = -1
      · by_cases c1 : cn g.C.flatten ((x : Int), true) = 1
        · have c1' : ((cn g.C.flatten ((x : Int), true) : Nat) : Int) = 1 := by omega
          by_cases c2 : cn g.C.flatten ((x : Int), false) = 1
          · have c2' : ((cn g.C.flatten ((x : Int), false) : Nat) : Int) = 1 := by omega
            have hok' : ∀ y, y < x + 1 → Ok20 g y := fun y hy => by
              by_cases hyx : y = x
              · subst hyx; exact ⟨by rw [hgd]; exact .inr hs2, c1, c2⟩
              · exact hok y (by omega)
            repeat' (first | refine w_seq ?_ | refine w_seqN ?_ | refine w_blk ?_ | refine w_blkN ?_ | refine w_skip ?_ | refine w_ops ?_ | ((refine i_cond ?_); first | refine w_condT rfl ?_ | refine w_condF rfl ?_) | ((refine i_nil ?_); first | refine w_end4 rfl rfl rfl rfl ?_ | refine w_end5 rfl rfl rfl rfl rfl ?_) | ((refine i_cons ?_); first | refine k_fldA rfl ?_ | refine k_ldb rfl bq rfl ?_ | (refine k_ldA rfl bq rfl ?_) | refine k_idxA rfl rfl (by omega) ?_ | refine k_ld rfl hrd ?_ | (have bq1' := bq1; refine k_ldA rfl bq1 rfl ?_) | (have e1' := e1; refine k_call rfl (k2 _ (cc.ext e1)) ?_; rintro v h2 ⟨e2, rfl⟩) | (refine k_call rfl (k1 _ cc) ?_; rintro v h1 ⟨e1, rfl⟩; have bq1 := bq.ext e1) | refine k_want rfl ?_ | refine k_mv rfl ?_ | refine k_pickT rfl rfl ?_ | refine k_pickF rfl rfl ?_ | refine k_add rfl rfl (by omega) ?_ | refine k_lssT rfl rfl (by omega) ?_ | refine k_neqT rfl rfl (by omega) ?_ | refine k_neqF rfl rfl (by omega) ?_))
            exact w_roundN ⟨x + 1, by omega, (e.trans e1).trans e2, hok', rfl⟩ (by simp [cnt, Env.get]; omega)
          · have hno := no fun h => c2 h.2.2
            have c2' : ((cn g.C.flatten ((x : Int), false) : Nat) : Int) ≠ 1 := by omega
            repeat' (first | refine w_seq ?_ | refine w_seqN ?_ | refine w_seqR ?_ | refine w_blk ?_ | refine w_blkR ?_ | refine w_skip ?_ | refine w_ret ?_ | refine w_ops ?_ | ((refine i_cond ?_); refine w_condT rfl ?_) | ((refine i_nil ?_); first | refine w_end1 rfl ?_ | refine w_end5 rfl rfl rfl rfl rfl ?_) | ((refine i_cons ?_); first | refine k_fldA rfl ?_ | refine k_ldb rfl bq rfl ?_ | (refine k_ldA rfl bq rfl ?_) | refine k_idxA rfl rfl (by omega) ?_ | refine k_ld rfl hrd ?_ | (have bq1' := bq1; refine k_ldA rfl bq1 rfl ?_) | (have e1' := e1; refine k_call rfl (k2 _ (cc.ext e1)) ?_; rintro v h2 ⟨e2, rfl⟩) | (refine k_call rfl (k1 _ cc) ?_; rintro v h1 ⟨e1, rfl⟩; have bq1 := bq.ext e1) | refine k_want rfl ?_ | refine k_mv rfl ?_ | refine k_pickT rfl rfl ?_ | refine k_pickF rfl rfl ?_ | refine k_lssT rfl rfl (by omega) ?_ | refine k_neqT rfl rfl (by omega) ?_ | refine k_neqF rfl rfl (by omega) ?_))
            exact w_roundR ⟨(e.trans e1).trans e2, rfl, hno⟩
        · have hno := no fun h => c1 h.2.1
          have c1' : ((cn g.C.flatten ((x : Int), true) : Nat) : Int) ≠ 1 := by omega
          repeat' (first | refine w_seq ?_ | refine w_seqN ?_ | refine w_seqR ?_ | refine w_blk ?_ | refine w_blkR ?_ | refine w_skip ?_ | refine w_ret ?_ | refine w_ops ?_ | ((refine i_cond ?_); refine w_condT rfl ?_) | ((refine i_nil ?_); first | refine w_end1 rfl ?_ | refine w_end5 rfl rfl rfl rfl rfl ?_) | ((refine i_cons ?_); first | refine k_fldA rfl ?_ | refine k_ldb rfl bq rfl ?_ | (refine k_ldA rfl bq rfl ?_) | refine k_idxA rfl rfl (by omega) ?_ | refine k_ld rfl hrd ?_ | (refine k_call rfl (k1 _ cc) ?_; rintro v h1 ⟨e1, rfl⟩) | refine k_skip rfl ?_ | refine k_want rfl ?_ | refine k_mv rfl ?_ | refine k_pickT rfl rfl ?_ | refine k_pickF rfl rfl ?_ | refine k_lssT rfl rfl (by omega) ?_ | refine k_neqT rfl rfl (by omega) ?_ | refine k_neqF rfl rfl (by omega) ?_))
          exact w_roundR ⟨e.trans e1, rfl, hno⟩
      · have hno := no fun h => by
          unfold Ok20 at h
          rw [hgd] at h
          rcases h.1 with h | h
          · exact hs1 h
          · exact hs2 h
        repeat' (first | refine w_seq ?_ | refine w_seqN ?_ | refine w_seqR ?_ | refine w_blk ?_ | refine w_blkR ?_ | refine w_skip ?_ | refine w_ret ?_ | refine w_ops ?_ | ((refine i_cond ?_); refine w_condT rfl ?_) | ((refine i_nil ?_); first | refine w_end1 rfl ?_ | refine w_end5 rfl rfl rfl rfl rfl ?_) | ((refine i_cons ?_); first | refine k_fldA rfl ?_ | refine k_ldb rfl bq rfl ?_ | refine k_idxA rfl rfl (by omega) ?_ | refine k_ld rfl hrd ?_ | refine k_skip rfl ?_ | refine k_want rfl ?_ | refine k_mv rfl ?_ | refine k_pickT rfl rfl ?_ | refine k_lssT rfl rfl (by omega) ?_ | refine k_neqT rfl rfl (by omega) ?_))
        exact w_roundR ⟨e, rfl, hno⟩
  · have hxe : x = g.S.length := by omega
    subst hxe
    repeat' (first | refine w_seq ?_ | refine w_seqN ?_ | refine w_seqX ?_ | refine w_exit ?_ | refine w_ops ?_ | ((refine i_cond ?_); refine w_condF rfl ?_) | ((refine i_nil ?_); refine w_end5 rfl rfl rfl rfl rfl ?_) | ((refine i_cons ?_); first | refine k_mv rfl ?_ | refine k_lssF rfl rfl (by omega) ?_))
    exact w_roundX ⟨e, rfl, hok, _, _, _, rfl⟩
set_option maxHeartbeats 4000000 in
theorem call20 (h0 : Heap) (X Sg : SV) (g : GC) (hf : GFits g) (hc : IsCode h0 X Sg g) : ∃ v h', Cal FT HKt 20 [.agg [X, Sg, .int .i64 g.L]] h0 v h' ∧ Ext h0 h' ∧ ∃ b, v = .sc (.bool b) ∧ (b = true ↔ VG g) := by
  refine Cal.of (F := a20) rfl rfl rfl ?_
  have hsl := hf.s
  have hlr := hf.l
  have hS := IsSl.len hc.s
  have no : ∀ {h' : Heap}, Ext h0 h' → ¬ VR g → Ext h0 h' ∧ ∃ b, (AV.sc (SV.bool false)) = .sc (.bool b) ∧ (b = true ↔ VG g) := fun he hno => ⟨he, false, rfl, by simpa using fun h => hno ((vr_vg g).2 h)⟩
  by_cases h1 : 64 < g.S.length
  · have hno : ¬ VR g := fun hg => by have := hg.1; omega
    repeat' (first | refine w_seq ?_ | refine w_seqN ?_ | refine w_seqR ?_ | refine w_ret ?_ | refine w_ops ?_ | ((refine i_cond ?_); refine w_condT rfl ?_) | ((refine i_nil ?_); first | refine w_end1 rfl ?_ | refine w_end2 rfl rfl ?_ | refine w_end3 rfl rfl rfl ?_) | ((refine i_cons ?_); first | (refine k_box rfl rfl ?_; intro h1 e1 l1 b1) | refine k_fldA rfl ?_ | refine k_ldb rfl b1 rfl ?_ | refine k_len rfl hS ?_ | refine k_skip rfl ?_ | refine k_mv rfl ?_ | refine k_pickT rfl rfl ?_ | refine k_gtrT rfl rfl (by omega) ?_))
    exact ⟨.inr rfl, no e1 hno⟩
  by_cases h2 : g.L < 0
  · have hno : ¬ VR g := fun hg => by have := hg.2.1; omega
    repeat' (first | refine w_seq ?_ | refine w_seqN ?_ | refine w_seqR ?_ | refine w_ret ?_ | refine w_ops ?_ | ((refine i_cond ?_); refine w_condT rfl ?_) | ((refine i_nil ?_); first | refine w_end1 rfl ?_ | refine w_end2 rfl rfl ?_ | refine w_end3 rfl rfl rfl ?_) | ((refine i_cons ?_); first | (refine k_box rfl rfl ?_; intro h1 e1 l1 b1) | refine k_fldA rfl ?_ | refine k_ldb rfl b1 rfl ?_ | refine k_len rfl hS ?_ | refine k_skip rfl ?_ | refine k_want rfl ?_ | refine k_mv rfl ?_ | refine k_pickT rfl rfl ?_ | refine k_pickF rfl rfl ?_ | refine k_lssT rfl rfl (by omega) ?_ | refine k_gtrF rfl rfl (by omega) ?_))
    exact ⟨.inr rfl, no e1 hno⟩
  by_cases h3 : 64 < g.L
  · have hno : ¬ VR g := fun hg => by have := hg.2.1; omega
    repeat' (first | refine w_seq ?_ | refine w_seqN ?_ | refine w_seqR ?_ | refine w_ret ?_ | refine w_ops ?_ | ((refine i_cond ?_); refine w_condT rfl ?_) | ((refine i_nil ?_); first | refine w_end1 rfl ?_ | refine w_end2 rfl rfl ?_ | refine w_end3 rfl rfl rfl ?_) | ((refine i_cons ?_); first | (refine k_box rfl rfl ?_; intro h1 e1 l1 b1) | refine k_fldA rfl ?_ | refine k_ldb rfl b1 rfl ?_ | refine k_len rfl hS ?_ | refine k_want rfl ?_ | refine k_mv rfl ?_ | refine k_pickF rfl rfl ?_ | refine k_lssF rfl rfl (by omega) ?_ | refine k_gtrT rfl rfl (by omega) ?_ | refine k_gtrF rfl rfl (by omega) ?_))
    exact ⟨.inr rfl, no e1 hno⟩
  repeat' (first | refine w_seq ?_ | refine w_seqN ?_ | refine w_blk ?_ | refine w_skip ?_ | refine w_ops ?_ | ((refine i_cond ?_); refine w_condF rfl ?_) | ((refine i_nil ?_); first | refine w_end1 rfl ?_ | refine w_end2 rfl rfl ?_ | refine w_end3 rfl rfl rfl ?_ | refine w_end4 rfl rfl rfl rfl ?_) | ((refine i_cons ?_); first | (refine k_box rfl rfl ?_; intro h1 e1 l1 b1) | refine k_fldA rfl ?_ | refine k_ldb rfl b1 rfl ?_ | refine k_len rfl hS ?_ | refine k_want rfl ?_ | refine k_mv rfl ?_ | refine k_pickF rfl rfl ?_ | refine k_lssF rfl rfl (by omega) ?_ | refine k_gtrF rfl rfl (by omega) ?_))
  refine w_loop (I20c h1 _ g) (cnt g.C.length 5) (R20c h1 _ g) ⟨0, Nat.zero_le _, rfl, by simp, rfl⟩ (round20c h1 _ X Sg _ g hf (hc.x.ext e1) b1) ?_
  rintro ex E' h' ⟨rfl, hR⟩
  cases ex with
  | nm => exact hR.elim
  | rt =>
    obtain ⟨rfl, hno⟩ := hR
    repeat' (first | refine w_seqR ?_ | refine w_blkR ?_)
    exact ⟨.inr rfl, no e1 hno⟩
  | ex z =>
    obtain ⟨rfl, hne, a, b, rfl⟩ := hR
    repeat' (first | refine w_seq ?_ | refine w_seqN ?_ | refine w_blk ?_ | refine w_blkX ?_ | refine w_ops ?_ | ((refine i_nil ?_); refine w_end4 rfl rfl rfl rfl ?_) | ((refine i_cons ?_); refine k_mv rfl ?_))
    refine w_loop (I20x h' _ g _) (cnt g.S.length 6) (R20x h' g _) ⟨0, Nat.zero_le _, Ext.refl _, (fun y hy => absurd hy (Nat.not_lt_zero _)), rfl⟩ (round20x h' _ X Sg g _ hf (hc.ext e1) b1) ?_
    rintro ex E' h2 ⟨e2, hR⟩
    cases ex with
    | nm => exact hR.elim
    | rt =>
      obtain ⟨rfl, hno⟩ := hR
      repeat' (first | refine w_seqR ?_ | refine w_blkR ?_)
      exact ⟨.inr rfl, no (e1.trans e2) hno⟩
    | ex z =>
      obtain ⟨rfl, hok, a, b, c, rfl⟩ := hR
      have hfv := hf.v
      by_cases hn : g.C.flatten.length = 2 * g.S.length
      · have hyes : VG g := (vr_vg g).1 ⟨by omega, by omega, hne, hok, hn⟩
        repeat' (first | refine w_seq ?_ | refine w_seqN ?_ | refine w_blkX ?_ | refine w_ret ?_ | refine w_ops ?_ | ((refine i_nil ?_); refine w_end1 rfl ?_) | ((refine i_cons ?_); first | refine k_mv rfl ?_ | refine k_mul rfl rfl (by omega) ?_ | refine k_eqlT rfl rfl (by omega) ?_))
        exact ⟨.inr rfl, e1.trans e2, true, rfl, by simpa using hyes⟩
      · have hno : ¬ VR g := fun hg => hn hg.2.2.2.2
        repeat' (first | refine w_seq ?_ | refine w_seqN ?_ | refine w_blkX ?_ | refine w_ret ?_ | refine w_ops ?_ | ((refine i_nil ?_); refine w_end1 rfl ?_) | ((refine i_cons ?_); first | refine k_mv rfl ?_ | refine k_mul rfl rfl (by omega) ?_ | refine k_eqlF rfl rfl (by omega) ?_))
        exact ⟨.inr rfl, no (e1.trans e2) hno⟩
theorem rvalT (h : Heap) (X Sg : SV) (g : GC) (hf : GFits g) (hc : IsCode h X Sg g) (hg : VG g) : ∃ v h', Cal FT HKt 20 [.agg [X, Sg, .int .i64 g.L]] h v h' ∧ Ext h h' ∧ v = .sc (.bool true) := by
  obtain ⟨v, h', hcl, he, b, rfl, hb⟩ := call20 h X Sg g hf hc
  exact ⟨_, _, hcl, he, by rw [hb.2 hg]⟩
theorem rvalF (h : Heap) (X Sg : SV) (g : GC) (hf : GFits g) (hc : IsCode h X Sg g) (hg : ¬ VG g) : ∃ v h', Cal FT HKt 20 [.agg [X, Sg, .int .i64 g.L]] h v h' ∧ Ext h h' ∧ v = .sc (.bool false) := by
  obtain ⟨v, h', hcl, he, b, rfl, hb⟩ := call20 h X Sg g hf hc
  refine ⟨_, _, hcl, he, ?_⟩
  cases b with
  | false => rfl
  | true => exact absurd (hb.1 rfl) hg
end Go.Proofs.YtleoalcbgpjieaaDoor
