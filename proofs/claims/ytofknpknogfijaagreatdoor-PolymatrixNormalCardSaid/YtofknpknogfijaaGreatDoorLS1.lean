/- Mul: the round. -/
import Derived.Test.YtofknpknogfijaaGreatDoorMV1
import Derived.Test.YtofknpknogfijaaGreatDoorC3
namespace Go.Proofs.YtofknpknogfijaaGreatDoor
open Go.Ab
set_option linter.unusedVariables false
set_option linter.unusedSimpArgs false
set_option maxRecDepth 20000
set_option maxHeartbeats 4000000
attribute [local irreducible] wOps wA wSeq wBlk wRound wRoundI wOpsD wOpsS
set_option linter.unusedSectionVars false
variable [HB]

def mulLo (p q : List Tm) : Int := lo0 p + lo0 q
def mulN (p q : List Tm) : Nat := (hi0 p + hi0 q - (lo0 p + lo0 q) + 1).toNat
/-- The product. -/
def mulP (p q : Pol) : Pol := open Classical in
  if p.big = true ∨ q.big = true then bigP
  else if p.ts = [] ∨ q.ts = [] then zeroP
  else if mulLo p.ts q.ts < -1048576 ∨ 1048576 < hi0 p.ts + hi0 q.ts then bigP
  else if ∀ t ∈ mulL p.ts q.ts (mulLo p.ts q.ts) (mulN p.ts q.ts), t.2.natAbs ≤ cM then ⟨false, mulL p.ts q.ts (mulLo p.ts q.ts) (mulN p.ts q.ts)⟩ else bigP
theorem lo0_mem {p : List Tm} (h0 : p ≠ []) : ∃ t ∈ p, t.1 = lo0 p := by
  cases p with
  | nil => exact absurd rfl h0
  | cons t r => exact ⟨t, .head _, rfl⟩
/-- While the result is gathered. -/
structure St22 (h0 h : Heap) (q4 q5 q8 : Nat) (lo : Int) (a : Bool) (S s : SV) (vs : List Int) (r : List Tm) : Prop where
  e : Ext h0 h
  c4 : Cel h q4 (.bool a) .nilS
  c5 : Cel1 h q5 (.int .i64 lo)
  c8 : Cel h q8 (.bool false) s
  o : OwnD h0 h s (tms r)
  sm : IsD h S (vs.map wdP)
  ap : Go.Ab.Apart s S
def I22 (h0 : Heap) (q4 q5 q8 : Nat) (lo : Int) (S : SV) (f : Int → Int) (n : Nat) (E : Env) (h : Heap) : Prop := ∃ (i : Nat) (s : SV), i ≤ n ∧ (∀ k : Nat, k < i → (f (lo + k)).natAbs ≤ cM) ∧ St22 h0 h q4 q5 q8 lo false S s (smL f lo n) (fromC f lo i) ∧
  E.keep [4, 5, 8, 73, 74, 75] = [(4, some (.sc (.ptr q4 0))), (5, some (.sc (.ptr q5 0))), (8, some (.sc (.ptr q8 0))), (73, some (.sc S)), (74, some (.sc (.int .i64 (n : Nat)))), (75, some (.sc (.int .i64 (i : Nat))))]
def R22 (h0 : Heap) (q4 q5 q8 : Nat) (lo : Int) (S : SV) (f : Int → Int) (n : Nat) (ex : Ex) (E : Env) (h : Heap) : Prop :=
  (ex = .ex 0 ∧ ∃ s a b c d, (∀ k : Nat, k < n → (f (lo + k)).natAbs ≤ cM) ∧ St22 h0 h q4 q5 q8 lo false S s (smL f lo n) (fromC f lo n) ∧ E = [(4, some (.sc (.ptr q4 0))), (5, a), (8, some (.sc (.ptr q8 0))), (73, b), (74, c), (75, d), (76, some (.sc (.bool false)))]) ∨
  (ex = .rt ∧ ¬ (∀ k : Nat, k < n → (f (lo + k)).natAbs ≤ cM) ∧ Ext h0 h ∧ Cel h q4 (.bool true) .nilS ∧ E = [(4, some (.sc (.ptr q4 0)))])
end Go.Proofs.YtofknpknogfijaaGreatDoor


namespace Go.Proofs.YtofknpknogfijaaGreatDoor
open Go.Ab
set_option linter.unusedVariables false
set_option linter.unusedSimpArgs false
set_option maxRecDepth 20000
set_option maxHeartbeats 4000000
attribute [local irreducible] wOps wA wSeq wBlk wRound wRoundI wOpsD wOpsS
set_option linter.unusedSectionVars false
variable [HB]

end Go.Proofs.YtofknpknogfijaaGreatDoor


namespace Go.Proofs.YtofknpknogfijaaGreatDoor
open Go.Ab
set_option linter.unusedVariables false
set_option linter.unusedSimpArgs false
set_option linter.unusedSectionVars false
variable [HB]
section
variable {FT : FuncId → Option AFun} {HK : FuncId → Option Hook} {E : Env} {h h0 : Heap} {K : Env → Heap → Prop} {d : Option Nat} {r : List AOp} {x y xo so : AO} {m n : Int}
theorem k_bslD {a b z0 z1 : SV} (hx : ev E xo = some (.agg [a, b])) (hw : ∀ h1, Ext h h1 → srcCells h1 2 (.slc h.length 0 1 (some 1)) = some (1, [a, b]) → wOps FT HK r (bindE d (some (.sc (.slc h.length 0 1 (some 1)))) E) h1 K) :
    wOps FT HK (⟨d, .bsl 2 [z0, z1] 1 [(0, xo)], none⟩ :: r) E h K := by
  refine op_ok (v := some (.sc (.slc h.length 0 1 (some 1)))) (h' := h ++ [.cells [a, b] true 2]) rfl rfl ?_ (hw _ ⟨_, rfl⟩ (by simp [srcCells, readN, cut]))
  simp [step1, evParts, hx, AV.cells, fillA, rep, splice, ez2]
theorem k_appD1 {bytes : Nat} {s t a b : SV} {ps : List P2} {z2 : List SV} (he : Ext h0 h) (ho : OwnD h0 h s ps) (hs : evS E so = some s) (hx : evS E x = some t) (ht : srcCells h 2 t = some (1, [a, b])) (hb : (ps.length + 1) * (bytes + 1) ≤ bigN)
    (hw : ∀ s' h', OwnD h0 h' s' (ps ++ [(a, b)]) → Ext h0 h' → Fram h h' s s' → h.length ≤ h'.length → wOps FT HK r (bindE d (some (.sc s')) E) h' K) :
    wOps FT HK (⟨d, .app 2 bytes z2 so x, none⟩ :: r) E h K := by
  obtain ⟨s', h', h1, h2, h3, h4, h5⟩ := appD (bytes := bytes) he ho hb a b
  refine op_ok (v := some (.sc s')) (h' := h') rfl rfl ?_ (hw s' h' h2 h3 h5 h4)
  simp only [step1, hs, hx, Option.bind_some, ez2, ht, h1, Option.map_some]
theorem k_tdiv (hx : evS E x = some (.int .i64 m)) (hy : evS E y = some (.int .i64 n)) (hr : n ≠ 0 ∧ -9223372036854775808 ≤ m.tdiv n ∧ m.tdiv n ≤ 9223372036854775807) (hw : wOps FT HK r (bindE d (some (.sc (.int .i64 (m.tdiv n)))) E) h K) : wOps FT HK (⟨d, .bin .quo x y, none⟩ :: r) E h K := by
  refine op_wrap (n := m.tdiv n) rfl rfl ?_ hr.2 hw
  simp only [step1, hx, hy, Option.bind_some, binS, isShift, binI]
  rw [if_neg (by decide), if_pos trivial, if_neg hr.1]; rfl
end
end Go.Proofs.YtofknpknogfijaaGreatDoor




namespace Go.Proofs.YtofknpknogfijaaGreatDoor
open Go.Ab
set_option linter.unusedVariables false
set_option linter.unusedSimpArgs false
set_option linter.unusedSectionVars false
variable [HB]

theorem S_map (g f : Int → Int) : ∀ l : List Tm, S g (l.map fun t => (f t.1, t.2)) = S (fun x => g (f x)) l
  | [] => rfl
  | t :: r => by simp only [List.map_cons, S, S_map g f r]
/-- Every exponent moved. -/
def mvL (f : Int → Int) (up : Bool) (l : List Tm) : List Tm := if up = true then l.map (fun t => (f t.1, t.2)) else (l.map fun t => (f t.1, t.2)).reverse
theorem mv_mem {f : Int → Int} {up : Bool} {l : List Tm} {t : Tm} : t ∈ mvL f up l ↔ ∃ u ∈ l, t = (f u.1, u.2) := by
  unfold mvL
  split
  · rw [List.mem_map]; exact ⟨fun ⟨u, a, b⟩ => ⟨u, a, b.symm⟩, fun ⟨u, a, b⟩ => ⟨u, a, b.symm⟩⟩
  · rw [List.mem_reverse, List.mem_map]; exact ⟨fun ⟨u, a, b⟩ => ⟨u, a, b.symm⟩, fun ⟨u, a, b⟩ => ⟨u, a, b.symm⟩⟩
/-- The order is kept, or turned round. -/
def Mvf (f : Int → Int) (up : Bool) : Prop := ∀ a b, a < b → if up = true then f a < f b else f b < f a
theorem mv_can {f : Int → Int} {up : Bool} (m : Mvf f up) {l : List Tm} (h : Can l) : Can (mvL f up l) := by
  refine ⟨?_, fun t ht => ?_⟩
  · unfold mvL
    cases up with
    | true =>
      rw [if_pos rfl]
      exact List.pairwise_map.2 (h.asc.imp fun ab => by simpa using m _ _ ab)
    | false =>
      rw [if_neg (by simp)]
      exact List.pairwise_reverse.2 (List.pairwise_map.2 (h.asc.imp fun ab => by simpa using m _ _ ab))
  · obtain ⟨u, a, rfl⟩ := mv_mem.1 ht
    exact h.nz u a
/-- A polynomial moved. -/
def movP (f : Int → Int) (up : Bool) (p : Pol) : Pol := open Classical in
  if p.big = true then p else if ∀ t ∈ p.ts, (f t.1).natAbs ≤ eM then ⟨false, mvL f up p.ts⟩ else bigP
theorem big_eq {p : Pol} (k : Pok p) (h : p.big = true) : p = bigP := by
  obtain ⟨b, ts⟩ := p
  have := k.big h
  simp only at h this
  subst h this
  rfl
theorem movP_big {f : Int → Int} {up : Bool} : movP f up bigP = bigP := by unfold movP; rw [if_pos rfl]
theorem movP_fit {f : Int → Int} {up : Bool} {p : Pol} (hb : p.big = false) (h : ∀ t ∈ p.ts, (f t.1).natAbs ≤ eM) : movP f up p = ⟨false, mvL f up p.ts⟩ := by
  unfold movP; rw [if_neg (by rw [hb]; simp), if_pos h]
theorem movP_ok {f : Int → Int} {up : Bool} (m : Mvf f up) {p : Pol} (k : Pok p) : Pok (movP f up p) := by
  unfold movP
  split
  · exact k
  split
  · rename_i h
    refine ⟨by simp, mv_can m k.can, fun t ht => ?_, fun t ht => ?_⟩
    · obtain ⟨u, a, rfl⟩ := mv_mem.1 ht
      exact k.cf u a
    · obtain ⟨u, a, rfl⟩ := mv_mem.1 ht
      exact h u a
  · exact bigP_ok
/-- Exponents within k. -/
def Bd (k : Nat) (l : List Tm) : Prop := ∀ t ∈ l, t.1.natAbs ≤ k
end Go.Proofs.YtofknpknogfijaaGreatDoor

