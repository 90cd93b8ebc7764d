/- Reading a binary form: plain. -/
import Derived.Test.YtehnalbdfnmphaaDoorQ1
import Derived.Test.YtehnalbdfnmphaaDoorAb38
namespace Go.Proofs.YtehnalbdfnmphaaDoor
open Go.Ab
set_option linter.unusedVariables false

/-- Bit c of the signs. -/
def bitN (L : List Nat) (c : Nat) : Nat := L.getD (2 + c / 8) 0 / 2 ^ (c % 8) % 2
theorem bitN_lt (L : List Nat) (c : Nat) : bitN L c < 2 := Nat.mod_lt _ (by decide)
/-- The signs, those below c read. -/
def sgC (L : List Nat) (n c : Nat) : List Int := (List.range n).map fun i => if i < c then 2 * (bitN L i : Int) - 1 else 0
theorem sgC_len (L : List Nat) (n c : Nat) : (sgC L n c).length = n := by simp [sgC]
theorem sgC_zero (L : List Nat) (n : Nat) : sgC L n 0 = List.replicate n 0 := by
  refine List.ext_getElem? fun i => ?_
  by_cases hi : i < n <;> simp [sgC, hi]
theorem sgC_set {L : List Nat} {n c : Nat} (hc : c < n) : (sgC L n c).set c (2 * (bitN L c : Int) - 1) = sgC L n (c + 1) := by
  refine List.ext_getElem? fun i => ?_
  rw [List.getElem?_set]
  split
  · rename_i h
    subst h
    simp [sgC, hc]
  · rename_i h
    by_cases hi : i < n
    · simp only [sgC, List.getElem?_map, List.getElem?_range hi, Option.map_some, Option.some.injEq]
      by_cases h2 : i < c
      · rw [if_pos h2, if_pos (by omega)]
      · rw [if_neg h2, if_neg (by omega)]
    · simp [sgC, hi]
theorem sgC_skip {L : List Nat} {n c : Nat} (hc : n ≤ c) : sgC L n (c + 1) = sgC L n c := by
  unfold sgC
  refine List.map_congr_left fun i hi => ?_
  simp only [List.mem_range] at hi
  rw [if_pos (by omega), if_pos (by omega)]
/-- The signs. -/
def sgs (L : List Nat) (n : Nat) : List Int := sgC L n n
theorem sgC_all {L : List Nat} {n c : Nat} (hc : n ≤ c) : sgC L n c = sgs L n := by
  unfold sgs sgC
  refine List.map_congr_left fun i hi => ?_
  simp only [List.mem_range] at hi
  rw [if_pos (by omega), if_pos (by omega)]
theorem sgs_len (L : List Nat) (n : Nat) : (sgs L n).length = n := sgC_len L n n
theorem sgs_get {L : List Nat} {n c : Nat} (hc : c < n) : (sgs L n)[c]? = some (2 * (bitN L c : Int) - 1) := by simp [sgs, sgC, hc]
theorem sgs_sgn (L : List Nat) (n : Nat) : ∀ x ∈ sgs L n, Sgn x := by
  intro x hx
  obtain ⟨i, hi⟩ := List.mem_iff_getElem?.1 hx
  have hl := (List.getElem?_eq_some_iff.1 hi).1
  rw [sgs_len] at hl
  rw [sgs_get hl] at hi
  have := bitN_lt L i
  have := Option.some.inj hi
  unfold Sgn
  omega
/-- The spare bits are 0. -/
def Pad (L : List Nat) (n : Nat) : Prop := ∀ c, n ≤ c → c < 8 * ((n + 7) / 8) → bitN L c ≠ 1

/-- The mates, as they are read: the mates, which are used, how many are read. -/
def mt (xs : List Int) (N : Nat) (T : List Nat) : Nat → Option (List Int × List Bool × Nat)
  | 0 => some (List.replicate N 0, List.replicate N false, 0)
  | h + 1 => match mt xs N T h with
    | none => none
    | some (ms, us, k) => if outB xs h = true then (if N ≤ T.getD k 0 ∨ us.getD (T.getD k 0) false = true ∨ outB xs (T.getD k 0) = true then none else some ((ms.set h (T.getD k 0 : Nat)).set (T.getD k 0) (h : Nat), us.set (T.getD k 0) true, k + 1)) else some (ms, us, k)
theorem mt_skip {xs : List Int} {N : Nat} {T : List Nat} {h : Nat} {p : List Int × List Bool × Nat} (hm : mt xs N T h = some p) (ho : outB xs h = false) : mt xs N T (h + 1) = some p := by
  obtain ⟨ms, us, k⟩ := p
  simp only [mt, hm, ho]; rfl
theorem mt_bad {xs : List Int} {N : Nat} {T : List Nat} {h k : Nat} {ms : List Int} {us : List Bool} (hm : mt xs N T h = some (ms, us, k)) (ho : outB xs h = true) (hb : N ≤ T.getD k 0 ∨ us.getD (T.getD k 0) false = true ∨ outB xs (T.getD k 0) = true) : mt xs N T (h + 1) = none := by
  simp only [mt, hm, ho, if_true, if_pos hb]
theorem mt_next {xs : List Int} {N : Nat} {T : List Nat} {h k : Nat} {ms : List Int} {us : List Bool} (hm : mt xs N T h = some (ms, us, k)) (ho : outB xs h = true) (hb : ¬ (N ≤ T.getD k 0 ∨ us.getD (T.getD k 0) false = true ∨ outB xs (T.getD k 0) = true)) :
    mt xs N T (h + 1) = some ((ms.set h (T.getD k 0 : Nat)).set (T.getD k 0) (h : Nat), us.set (T.getD k 0) true, k + 1) := by
  simp only [mt, hm, ho, if_true, if_neg hb]
theorem mt_none {xs : List Int} {N : Nat} {T : List Nat} {h : Nat} (hm : mt xs N T h = none) : ∀ k, mt xs N T (h + k) = none
  | 0 => hm
  | k + 1 => by rw [← Nat.add_assoc, mt, mt_none hm k]
theorem mt_len {xs : List Int} {N : Nat} {T : List Nat} : ∀ {h : Nat} {ms : List Int} {us : List Bool} {k : Nat}, mt xs N T h = some (ms, us, k) → ms.length = N ∧ us.length = N ∧ k = cntO xs h
  | 0, ms, us, k, hm => by
    simp only [mt, Option.some.injEq, Prod.mk.injEq] at hm
    obtain ⟨rfl, rfl, rfl⟩ := hm
    simp [cntO]
  | h + 1, ms, us, k, hm => by
    rw [cntO_succ]
    cases h1 : mt xs N T h with
    | none => rw [mt, h1] at hm; cases hm
    | some p =>
      obtain ⟨ms', us', k'⟩ := p
      obtain ⟨l1, l2, l3⟩ := mt_len h1
      cases ho : outB xs h with
      | false =>
        rw [mt_skip h1 ho] at hm
        cases hm
        exact ⟨l1, l2, by rw [l3]; rfl⟩
      | true =>
        by_cases hb : N ≤ T.getD k' 0 ∨ us'.getD (T.getD k' 0) false = true ∨ outB xs (T.getD k' 0) = true
        · rw [mt_bad h1 ho hb] at hm; cases hm
        · rw [mt_next h1 ho hb] at hm
          cases hm
          exact ⟨by simp [l1], by simp [l2], by rw [l3]; rfl⟩

open Classical in
noncomputable def decR (L : List Nat) : DR :=
  if L.length < 2 then .err 4 else
  if 64 < L.getD 0 0 ∨ 64 < L.getD 1 0 then .err 5 else
  if L.length < 2 + (L.getD 0 0 + 7) / 8 + 2 * L.getD 0 0 then .err 4 else
  if 2 + (L.getD 0 0 + 7) / 8 + 2 * L.getD 0 0 < L.length then .err 3 else
  if ¬ Pad L (L.getD 0 0) then .err 3 else
  match mt (sgs L (L.getD 0 0)) (4 * L.getD 0 0) (L.drop (2 + (L.getD 0 0 + 7) / 8)) (4 * L.getD 0 0) with
  | none => .err 3
  | some (ms, _, _) => if PV (sgs L (L.getD 0 0)) ms (L.getD 1 0 : Nat) then .ok (sgs L (L.getD 0 0)) ms (L.getD 1 0) else .err 7
/-- The lengths are right. -/
structure Hd (L : List Nat) (n l : Nat) : Prop where
  two : ¬ L.length < 2
  gn : L.getD 0 0 = n
  gl : L.getD 1 0 = l
  fit : ¬ (64 < n ∨ 64 < l)
  lo : ¬ L.length < 2 + (n + 7) / 8 + 2 * n
  hi : ¬ 2 + (n + 7) / 8 + 2 * n < L.length
theorem decR_pad {L : List Nat} {n l : Nat} (h : Hd L n l) (hp : ¬ Pad L n) : decR L = .err 3 := by
  unfold decR; rw [if_neg h.two, h.gn, h.gl, if_neg h.fit, if_neg h.lo, if_neg h.hi, if_pos hp]
theorem decR_none {L : List Nat} {n l : Nat} (h : Hd L n l) (hp : Pad L n) (hm : mt (sgs L n) (4 * n) (L.drop (2 + (n + 7) / 8)) (4 * n) = none) : decR L = .err 3 := by
  unfold decR; rw [if_neg h.two, h.gn, h.gl, if_neg h.fit, if_neg h.lo, if_neg h.hi, if_neg (fun h => h hp), hm]
theorem decR_ok {L : List Nat} {n l k : Nat} {ms : List Int} {us : List Bool} (h : Hd L n l) (hp : Pad L n) (hm : mt (sgs L n) (4 * n) (L.drop (2 + (n + 7) / 8)) (4 * n) = some (ms, us, k)) (hV : PV (sgs L n) ms (l : Nat)) : decR L = .ok (sgs L n) ms l := by
  unfold decR; rw [if_neg h.two, h.gn, h.gl, if_neg h.fit, if_neg h.lo, if_neg h.hi, if_neg (fun h => h hp), hm]
  exact if_pos hV
theorem decR_bad {L : List Nat} {n l k : Nat} {ms : List Int} {us : List Bool} (h : Hd L n l) (hp : Pad L n) (hm : mt (sgs L n) (4 * n) (L.drop (2 + (n + 7) / 8)) (4 * n) = some (ms, us, k)) (hV : ¬ PV (sgs L n) ms (l : Nat)) : decR L = .err 7 := by
  unfold decR; rw [if_neg h.two, h.gn, h.gl, if_neg h.fit, if_neg h.lo, if_neg h.hi, if_neg (fun h => h hp), hm]
  exact if_neg hV
/-- The answer in memory. -/
def DecV (r : DR) (h0 : Heap) (v : AV) (h' : Heap) : Prop := Ext h0 h' ∧ match r with
  | .err e => v = .tup [.agg [.nilS, .nilS, .int .i64 0], .sc (.int .i64 (e : Nat))]
  | .ok xs ms l => ∃ s m, v = .tup [.agg [s, m, .int .i64 (l : Nat)], .sc (.int .i64 0)] ∧ IsInts h' s xs ∧ IsInts h' m ms
end Go.Proofs.YtehnalbdfnmphaaDoor


namespace Go.Proofs.YtehnalbdfnmphaaDoor
open Go.Ab
set_option linter.unusedVariables false
set_option linter.unusedSimpArgs false
set_option maxRecDepth 20000
set_option maxHeartbeats 4000000
attribute [local irreducible] wOps wA wSeq wBlk wRound wRoundI wOpsD
variable {HK : FuncId → Option Hook}

theorem rdL {L : Heap} {k i : Nat} {es : List Int} (hL : L[k]? = some (EX es)) (hi : i < es.length) {j : Int} (hj : j = (i : Nat)) : readN L k (0 + j.toNat * 1) 1 = some [.int .i64 (es.getD i 0)] := by
  subst hj
  rw [Int.toNat_natCast]
  exact rdI hL (by simp [List.getD, hi])
theorem wrL {L : Heap} {k i : Nat} {es : List Int} (hL : L[k]? = some (EX es)) (hi : i < es.length) {j : Int} (hj : j = (i : Nat)) {x : Int} : writeN L k (0 + j.toNat * 1) [.int .i64 x] = some (L.set k (EX (es.set i x))) := by
  subst hj
  rw [Int.toNat_natCast]
  exact wrI hL hi x
theorem rdB {L : Heap} {k i : Nat} {es : List Bool} (hL : L[k]? = some (SN es)) (hi : i < es.length) {j : Int} (hj : j = (i : Nat)) : readN L k (0 + j.toNat * 1) 1 = some [.bool (es.getD i false)] := by
  subst hj
  rw [Int.toNat_natCast]
  exact rdS hL (by simp [List.getD, hi])
theorem wrB {L : Heap} {k i : Nat} {es : List Bool} (hL : L[k]? = some (SN es)) (hi : i < es.length) {j : Int} (hj : j = (i : Nat)) {x : Bool} : writeN L k (0 + j.toNat * 1) [.bool x] = some (L.set k (SN (es.set i x))) := by
  subst hj
  rw [Int.toNat_natCast]
  rw [wrS hL (by simpa using hi)]
  simp [SN, List.map_set]
theorem exL {h0 L : Heap} {k n : Nat} {es : List Int} (hL : L[k]? = some (EX es)) (hn : es.length = n) : IsInts (h0 ++ L) (.slc (h0.length + k) 0 n (some n)) es := by
  subst hn
  refine .inr ⟨h0.length + k, 0, some es.length, EX es, rfl, by rw [get_app]; exact hL, rfl, fun h => by rw [List.eq_nil_of_length_eq_zero h]; rfl, fun _ => ⟨_, true, rfl, ?_⟩⟩
  unfold cut
  simp only [ESz.one_n]
  rw [if_pos (by simp)]
  simp only [List.drop_zero, Option.some.injEq]
  exact List.take_of_length_le (by simp)

/-- The result's box, and the diagram's. -/
abbrev R0 : Blk := .cells [.nilS, .nilS, .int .i64 0] true 0
abbrev D0 (h0 : Heap) (n : Nat) (l : Int) : Blk := .cells [.slc (h0.length + 1) 0 n (some n), .slc (h0.length + 2) 0 (4 * n) (some (4 * n)), .int .i64 l] true 0

/-! ### The signs -/
def I17a (h0 : Heap) (s : SV) (L : List Nat) (n : Nat) (l : Int) (E : Env) (h : Heap) : Prop := ∃ c : Nat, c ≤ 8 * ((n + 7) / 8) ∧ (∀ i, i < c → n ≤ i → bitN L i ≠ 1) ∧
  h = h0 ++ [R0, EX (sgC L n c), EX (List.replicate (4 * n) 0), D0 h0 n l] ∧
  E = [(0, some (.sc s)), (2, some (.sc (.ptr (h0.length + 0) 0))), (4, some (.sc (.int .i64 (n : Nat)))), (6, some (.sc (.int .i64 (2 + (n + 7) / 8 : Nat)))), (7, some (.sc (.ptr (h0.length + 3) 0))), (62, some (.sc (.int .i64 (8 * ((n + 7) / 8) : Nat)))), (63, some (.sc (.int .i64 (c : Nat))))]
def R17a (h0 : Heap) (s : SV) (L : List Nat) (n : Nat) (l : Int) (ex : Ex) (E : Env) (h : Heap) : Prop := match ex with
  | .rt => ¬ Pad L n ∧ (∃ T, h = h0 ++ R0 :: T) ∧ E = [(2, some (.sc (.ptr (h0.length + 0) 0))), (3, some (.sc (.int .i64 3)))]
  | .ex z => z = 0 ∧ Pad L n ∧ h = h0 ++ [R0, EX (sgs L n), EX (List.replicate (4 * n) 0), D0 h0 n l] ∧ ∃ x y z,
    E = [(0, some (.sc s)), (2, some (.sc (.ptr (h0.length + 0) 0))), (4, some (.sc (.int .i64 (n : Nat)))), (6, some (.sc (.int .i64 (2 + (n + 7) / 8 : Nat)))), (7, some (.sc (.ptr (h0.length + 3) 0))), (62, x), (63, y), (64, z)]
  | .nm => False
/-! ### The mates -/
def I17m (h0 : Heap) (xs : List Int) (T : List Nat) (n : Nat) (l : Int) (E : Env) (h : Heap) : Prop := ∃ (c k : Nat) (ms : List Int) (us : List Bool) (t : SV), c ≤ 4 * n ∧ mt xs (4 * n) T c = some (ms, us, k) ∧ IsBy h0 t (T.drop k) ∧
  h = h0 ++ [R0, EX xs, EX ms, D0 h0 n l, SN us] ∧
  E = [(2, some (.sc (.ptr (h0.length + 0) 0))), (4, some (.sc (.int .i64 (n : Nat)))), (7, some (.sc (.ptr (h0.length + 3) 0))), (10, some (.sc (.slc (h0.length + 4) 0 (4 * n) (some (4 * n))))), (11, some (.sc t)), (98, some (.sc (.int .i64 (4 * n : Nat)))), (99, some (.sc (.int .i64 (c : Nat))))]
def R17m (h0 : Heap) (xs : List Int) (T : List Nat) (n : Nat) (l : Int) (ex : Ex) (E : Env) (h : Heap) : Prop := match ex with
  | .rt => mt xs (4 * n) T (4 * n) = none ∧ (∃ U, h = h0 ++ R0 :: U) ∧ E = [(2, some (.sc (.ptr (h0.length + 0) 0))), (3, some (.sc (.int .i64 3)))]
  | .ex z => z = 2 ∧ ∃ ms us k, mt xs (4 * n) T (4 * n) = some (ms, us, k) ∧ h = h0 ++ [R0, EX xs, EX ms, D0 h0 n l, SN us] ∧ ∃ a b c x y z,
    E = [(2, some (.sc (.ptr (h0.length + 0) 0))), (4, a), (7, some (.sc (.ptr (h0.length + 3) 0))), (10, b), (11, c), (98, x), (99, y), (100, z)]
  | .nm => False
end Go.Proofs.YtehnalbdfnmphaaDoor


namespace Go.Proofs.YtehnalbdfnmphaaDoor
open Go.Ab
set_option linter.unusedVariables false
set_option linter.unusedSimpArgs false
set_option maxRecDepth 20000
set_option maxHeartbeats 4000000
attribute [local irreducible] wOps wA wSeq wBlk wRound wRoundI wOpsD

theorem oK_err {h0 : Heap} {T : Heap} {t u : Nat} {e : Nat} {E : Env} {Q : AV → Prop} (h1 : E.get t = some (.sc (.ptr (h0.length + 0) 0))) (h2 : E.get u = some (.sc (.int .i64 (e : Nat)))) (hQ : Q (.tup [.agg [.nilS, .nilS, .int .i64 0], .sc (.int .i64 (e : Nat))])) :
    oK (resultsA [.cell t 3 true, .t u] E (h0 ++ R0 :: T)) Q :=
  oK_cellt h1 (by rw [rdA]; rfl) h2 hQ

end Go.Proofs.YtehnalbdfnmphaaDoor


