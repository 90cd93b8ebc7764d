/- Reading a binary form: plain. -/
import Derived.Test.YtehnalbdfnmphaaDoorQ1
import Derived.Test.YtehnalbdfnmphaaDoorAb38
namespace Go.Proofs.YtehnalbdfnmphaaDoor
open Go.Ab
set_option linter.unusedVariables false

/-- Bit c of the signs. -/
def bitN (L : List Nat) (c : Nat) : Nat := L.getD (2 + c / 8) 0 / 2 ^ (c % 8) % 2
theorem bitN_lt (L : List Nat) (c : Nat) : bitN L c < 2 := Nat.mod_lt _ (by decide)
/-- The signs, those below c read. -/
def sgC (L : List Nat) (n c : Nat) : List Int := (List.range n).map fun i => if i < c then 2 * (bitN L i : Int) - 1 else 0
theorem sgC_len (L : List Nat) (n c : Nat) : (sgC L n c).length = n := by simp [sgC]
theorem sgC_zero (L : List Nat) (n : Nat) : sgC L n 0 = List.replicate n 0 := by
  refine List.ext_getElem? fun i => ?_
  by_cases hi : i < n <;> simp [sgC, hi]
theorem sgC_set {L : List Nat} {n c : Nat} (hc : c < n) : (sgC L n c).set c (2 * (bitN L c : Int) - 1) = sgC L n (c + 1) := by
  refine List.ext_getElem? fun i => ?_
  rw [List.getElem?_set]
  split
  · rename_i h
    subst h
    simp [sgC, hc]
  · rename_i h
    by_cases hi : i < n
    · simp only [sgC, List.getElem?_map, List.getElem?_range hi, Option.map_some, Option.some.injEq]
      by_cases h2 : i < c
      · rw [if_pos h2, if_pos (by omega)]
      · rw [if_neg h2, if_neg (by omega)]
    · simp [sgC, hi]
theorem sgC_skip {L : List Nat} {n c : Nat} (hc : n ≤ c) : sgC L n (c + 1) = sgC L n c := by
  unfold sgC
  refine List.map_congr_left fun i hi => ?_
  simp only [List.mem_range] at hi
  rw [if_pos (by omega), if_pos (by omega)]
/-- The signs. -/
def sgs (L : List Nat) (n : Nat) : List Int := sgC L n n
theorem sgC_all {L : List Nat} {n c : Nat} (hc : n ≤ c) : sgC L n c = sgs L n := by
  unfold sgs sgC
  refine List.map_congr_left fun i hi => ?_
  simp only [List.mem_range] at hi
  rw [if_pos (by omega), if_pos (by omega)]
theorem sgs_len (L : List Nat) (n : Nat) : (sgs L n).length = n := sgC_len L n n
theorem sgs_get {L : List Nat} {n c : Nat} (hc : c < n) : (sgs L n)[c]? = some (2 * (bitN L c : Int) - 1) := by simp [sgs, sgC, hc]
theorem sgs_sgn (L : List Nat) (n : Nat) : ∀ x ∈ sgs L n, Sgn x := by
  intro x hx
  obtain ⟨i, hi⟩ := List.mem_iff_getElem?.1 hx
  have hl := (List.getElem?_eq_some_iff.1 hi).1
  rw [sgs_len] at hl
  rw [sgs_get hl] at hi
  have := bitN_lt L i
  have := Option.some.inj hi
  unfold Sgn
  omega
/-- The spare bits are 0. -/
def Pad (L : List Nat) (n : Nat) : Prop := ∀ c, n ≤ c → c < 8 * ((n + 7) / 8) → bitN L c ≠ 1

/-- The mates, as they are read: the mates, which are used, how many are read. -/
def mt (xs : List Int) (N : Nat) (T : List Nat) : Nat → Option (List Int × List Bool × Nat)
  | 0 => some (List.replicate N 0, List.replicate N false, 0)
  | h + 1 => match mt xs N T h with
    | none => none
    | some (ms, us, k) => if outB xs h = true then (if N ≤ T.getD k 0 ∨ us.getD (T.getD k 0) false = true ∨ outB xs (T.getD k 0) = true then none else some ((ms.set h (T.getD k 0 : Nat)).set (T.getD k 0) (h : Nat), us.set (T.getD k 0) true, k + 1)) else some (ms, us, k)
theorem mt_skip {xs : List Int} {N : Nat} {T : List Nat} {h : Nat} {p : List Int × List Bool × Nat} (hm : mt xs N T h = some p) (ho : outB xs h = false) : mt xs N T (h + 1) = some p := by
  obtain ⟨ms, us, k⟩ := p
  simp only [mt, hm, ho]; rfl
theorem mt_bad {xs : List Int} {N : Nat} {T : List Nat} {h k : Nat} {ms : List Int} {us : List Bool} (hm : mt xs N T h = some (ms, us, k)) (ho : outB xs h = true) (hb : N ≤ T.getD k 0 ∨ us.getD (T.getD k 0) false = true ∨ outB xs (T.getD k 0) = true) : mt xs N T (h + 1) = none := by
  simp only [mt, hm, ho, if_true, if_pos hb]
theorem mt_next {xs : List Int} {N : Nat} {T : List Nat} {h k : Nat} {ms : List Int} {us : List Bool} (hm : mt xs N T h = some (ms, us, k)) (ho : outB xs h = true) (hb : ¬ (N ≤ T.getD k 0 ∨ us.getD (T.getD k 0) false = true ∨ outB xs (T.getD k 0) = true)) :
    mt xs N T (h + 1) = some ((ms.set h (T.getD k 0 : Nat)).set (T.getD k 0) (h : Nat), us.set (T.getD k 0) true, k + 1) := by
  simp only [mt, hm, ho, if_true, if_neg hb]
theorem mt_none {xs : List Int} {N : Nat} {T : List Nat} {h : Nat} (hm : mt xs N T h = none) : ∀ k, mt xs N T (h + k) = none
  | 0 => hm
  | k + 1 => by rw [← Nat.add_assoc, mt, mt_none hm k]
theorem mt_len {xs : List Int} {N : Nat} {T : List Nat} : ∀ {h : Nat} {ms : List Int} {us : List Bool} {k : Nat}, mt xs N T h = some (ms, us, k) → ms.length = N ∧ us.length = N ∧ k = cntO xs h
  | 0, ms, us, k, hm => by
    simp only [mt, Option.some.injEq, Prod.mk.injEq] at hm
    obtain ⟨rfl, rfl, rfl⟩ := hm
    simp [cntO]
  | h + 1, ms, us, k, hm => by
    rw [cntO_succ]
    cases h1 : mt xs N T h with
    | none => rw [mt, h1] at hm; cases hm
    | some p =>
      obtain ⟨ms', us', k'⟩ := p
      obtain ⟨l1, l2, l3⟩ := mt_len h1
      cases ho : outB xs h with
      | false =>
        rw [mt_skip h1 ho] at hm
        cases hm
        exact ⟨l1, l2, by rw [l3]; rfl⟩
      | true =>
        by_cases hb : N ≤ T.getD k' 0 ∨ us'.getD (T.getD k' 0) false = true ∨ outB xs (T.getD k' 0) = true
        · rw [mt_bad h1 ho hb] at hm; cases hm
        · rw [mt_next h1 ho hb] at hm
          cases hm
          exact ⟨by simp [l1], by simp [l2], by rw [l3]; rfl⟩

open Classical in
noncomputable def decR (L : List Nat) : DR :=
  if L.length < 2 then .err 4 else
  if 64 < L.getD 0 0 ∨ 64 < L.getD 1 0 then .err 5 else
  if L.length < 2 + (L.getD 0 0 + 7) / 8 + 2 * L.getD 0 0 then .err 4 else
  if 2 + (L.getD 0 0 + 7) / 8 + 2 * L.getD 0 0 < L.length then .err 3 else
  if ¬ Pad L (L.getD 0 0) then .err 3 else
  match mt (sgs L (L.getD 0 0)) (4 * L.getD 0 0) (L.drop (2 + (L.getD 0 0 + 7) / 8)) (4 * L.getD 0 0) with
  | none => .err 3
  | some (ms, _, _) => if PV (sgs L (L.getD 0 0)) ms (L.getD 1 0 : Nat) then .ok (sgs L (L.getD 0 0)) ms (L.getD 1 0) else .err 7
/-- The lengths are right. -/
structure Hd (L : List Nat) (n l : Nat) : Prop where
  two : ¬ L.length < 2
  gn : L.getD 0 0 = n
  gl : L.getD 1 0 = l
  fit : ¬ (64 < n ∨ 64 < l)
  lo : ¬ L.length < 2 + (n + 7) / 8 + 2 * n
  hi : ¬ 2 + (n + 7) / 8 + 2 * n < L.length
theorem decR_pad {L : List Nat} {n l : Nat} (h : Hd L n l) (hp : ¬ Pad L n) : decR L = .err 3 := by
  unfold decR; rw [if_neg h.two, h.gn, h.gl, if_neg h.fit, if_neg h.lo, if_neg h.hi, if_pos hp]
theorem decR_none {L : List Nat} {n l : Nat} (h : Hd L n l) (hp : Pad L n) (hm : mt (sgs L n) (4 * n) (L.drop (2 + (n + 7) / 8)) (4 * n) = none) : decR L = .err 3 := by
  unfold decR; rw [if_neg h.two, h.gn, h.gl, if_neg h.fit, if_neg h.lo, if_neg h.hi, if_neg (fun h => h hp), hm]
theorem decR_ok {L : List Nat} {n l k : Nat} {ms : List Int} {us : List Bool} (h : Hd L n l) (hp : Pad L n) (hm : mt (sgs L n) (4 * n) (L.drop (2 + (n + 7) / 8)) (4 * n) = some (ms, us, k)) (hV : PV (sgs L n) ms (l : Nat)) : decR L = .ok (sgs L n) ms l := by
  unfold decR; rw [if_neg h.two, h.gn, h.gl, if_neg h.fit, if_neg h.lo, if_neg h.hi, if_neg (fun h => h hp), hm]
  exact if_pos hV
theorem decR_bad {L : List Nat} {n l k : Nat} {ms : List Int} {us : List Bool} (h : Hd L n l) (hp : Pad L n) (hm : mt (sgs L n) (4 * n) (L.drop (2 + (n + 7) / 8)) (4 * n) = some (ms, us, k)) (hV : ¬ PV (sgs L n) ms (l : Nat)) : decR L = .err 7 := by
  unfold decR; rw [if_neg h.two, h.gn, h.gl, if_neg h.fit, if_neg h.lo, if_neg h.hi, if_neg (fun h => h hp), hm]
  exact if_neg hV
/-- The answer in memory. -/
def DecV (r : DR) (h0 : Heap) (v : AV) (h' : Heap) : Prop := Ext h0 h' ∧ match r with
  | .err e => v = .tup [.agg [.nilS, .nilS, .int .i64 0], .sc (.int .i64 (e : Nat))]
  | .ok xs ms l => ∃ s m, v = .tup [.agg [s, m, .int .i64 (l : Nat)], .sc (.int .i64 0)] ∧ IsInts h' s xs ∧ IsInts h' m ms
end Go.Proofs.YtehnalbdfnmphaaDoor


namespace Go.Proofs.YtehnalbdfnmphaaDoor
open Go.Ab
set_option linter.unusedVariables false
set_option linter.unusedSimpArgs false
attribute [local irreducible] wOps wA wSeq wBlk wRound wRoundI wOpsD

section
variable {FT : FuncId → Option AFun} {HK : FuncId → Option Hook} {E : Env} {h : Heap} {K : Env → Heap → Prop} {r : List AOp} {x : AO}
/-- A new cell of three values, and what is put there. -/
theorem k_newst3 {t : Nat} {a b c u v w : SV} (hx : ev (bindE (some t) (some (.sc (.ptr h.length 0))) E) x = some (.agg [u, v, w])) (hw : ∀ h1, Ext h h1 → Blk.At h1 h.length [u, v, w] → wOps FT HK r (bindE (some t) (some (.sc (.ptr h.length 0))) E) h1 K) :
    wOps FT HK (⟨some t, .new [a, b, c], none⟩ :: ⟨none, .st 3 (.t t) x, none⟩ :: r) E h K := by
  refine op_ok (v := some (.sc (.ptr h.length 0))) (h' := h ++ [.cells [a, b, c] true 0]) rfl rfl rfl ?_
  refine op_ok (v := none) (h' := h ++ [.cells [u, v, w] true 0]) rfl rfl ?_ (hw _ ⟨_, rfl⟩ (Blk.At.last h _ true 0))
  have h1 : evS (bindE (some t) (some (.sc (.ptr h.length 0))) E) (.t t) = some (.ptr h.length 0) := by simp [evS, ev, bindE, Env.get]
  simp [step1, h1, hx, AV.cells, writeN, splice]
end

theorem decR_PV {L : List Nat} {xs ms : List Int} {l : Nat} (h : decR L = .ok xs ms l) : PV xs ms (l : Nat) := by
  unfold decR at h
  split at h
  · cases h
  split at h
  · cases h
  split at h
  · cases h
  split at h
  · cases h
  split at h
  · cases h
  split at h
  · cases h
  · rename_i ms' us' k' hm
    split at h
    · rename_i hV
      cases h
      exact hV
    · cases h
end Go.Proofs.YtehnalbdfnmphaaDoor

