/- Small arguments. -/
import Derived.Test.YtlnjddjobbhcaaaDoorPX
import Derived.Test.YtlnjddjobbhcaaaDoorT5
import Derived.Test.YtlnjddjobbhcaaaDoorPZ
namespace Go.Proofs.YtlnjddjobbhcaaaDoor
open Go.Ab
set_option linter.unusedVariables false
set_option linter.unusedSimpArgs false
set_option maxRecDepth 20000
set_option maxHeartbeats 8000000
attribute [local irreducible] wOps wA wSeq wBlk wRound wRoundI wOpsD wOpsS

def smC (x : Int) : Prop := -4611686018427387904 ≤ x ∧ x ≤ 4611686018427387904
def smallP (low : Int) (xs : List Int) : Prop := xs.length ≤ 20 ∧ -100 ≤ low ∧ low ≤ 100 ∧ ∀ x ∈ xs, smC x
def I11 (h0 : Heap) (s : SV) (xs : List Int) (E : Env) (h : Heap) : Prop := h = h0 ∧ ∃ i : Nat, i ≤ xs.length ∧ (∀ x ∈ xs.take i, smC x) ∧
  E.keep [1, 5] = [(1, some (.sc s)), (5, some (.sc (.int .i64 (i : Nat))))]
def R11 (h0 : Heap) (xs : List Int) (ex : Ex) (E : Env) (h : Heap) : Prop := h = h0 ∧
  ((ex = .ex 0 ∧ (∀ x ∈ xs, smC x) ∧ ∃ a b c, E = [(1, a), (5, b), (20, c)]) ∨ (ex = .rt ∧ ¬ (∀ x ∈ xs, smC x) ∧ E = [(4, some (.sc (.int .i64 0)))]))
theorem round11 (h0 : Heap) (s : SV) (xs : List Int) (hs : IsInts h0 s xs) (hn : xs.length ≤ 20) (E : Env) (h : Heap) (hI : I11 h0 s xs E h) :
    wA FT HKt b11L0 (E.keep [1, 5]) h (wRound (I11 h0 s xs) (cK [1, 5] xs.length 5) (cK [1, 5] xs.length 5 E h) (R11 h0 xs)) := by
  obtain ⟨rfl, i, hi, hsm, hE⟩ := hI
  have hm : cK [1, 5] xs.length 5 E h = xs.length - i := by unfold cK; rw [hE]; rfl
  rw [hm, hE]
  have ls := IsSl.len hs
  by_cases hlt : i < xs.length
  · obtain ⟨x, hx⟩ : ∃ x, xs[i]? = some x := ⟨_, List.getElem?_eq_getElem hlt⟩
    have hxm := List.mem_of_getElem? hx
    obtain ⟨id, off, cap, rfl, rd⟩ := IsInts.at hs hx
    by_cases h1 : x < -4611686018427387904
    · repeat' (first | refine w_seq ?_ | refine w_seqN ?_ | refine w_seqR ?_ | refine w_blk ?_ | refine w_blkR ?_ | refine w_skip ?_ | refine w_ret ?_ | refine w_ops ?_ | ((refine i_cond ?_); refine w_condT rfl ?_) | ((refine i_nil ?_); first | refine w_end1 rfl ?_ | refine w_end3 rfl rfl rfl ?_) | ((refine i_cons ?_); first | refine k_len rfl ls ?_ | refine k_idxA (esz := 1) rfl rfl (by omega) ?_ | refine k_ld rfl rd ?_ | refine k_skip rfl ?_ | refine k_mv rfl ?_ | refine k_pickT rfl rfl ?_ | refine k_lssT rfl rfl (by omega) ?_))
      exact w_roundR ⟨rfl, .inr ⟨rfl, fun h => by have := (h x hxm).1; omega, rfl⟩⟩
    · by_cases h2 : 4611686018427387904 < x
      · repeat' (first | refine w_seq ?_ | refine w_seqN ?_ | refine w_seqR ?_ | refine w_blk ?_ | refine w_blkR ?_ | refine w_skip ?_ | refine w_ret ?_ | refine w_ops ?_ | ((refine i_cond ?_); refine w_condT rfl ?_) | ((refine i_nil ?_); first | refine w_end1 rfl ?_ | refine w_end3 rfl rfl rfl ?_) | ((refine i_cons ?_); first | refine k_len rfl ls ?_ | refine k_idxA (esz := 1) rfl rfl (by omega) ?_ | refine k_ld rfl rd ?_ | refine k_want rfl ?_ | refine k_mv rfl ?_ | refine k_pickF rfl rfl ?_ | refine k_lssT rfl rfl (by omega) ?_ | refine k_lssF rfl rfl (by omega) ?_ | refine k_gtrT rfl rfl (by omega) ?_))
        exact w_roundR ⟨rfl, .inr ⟨rfl, fun h => by have := (h x hxm).2; omega, rfl⟩⟩
      · repeat' (first | refine w_seq ?_ | refine w_seqN ?_ | refine w_blk ?_ | refine w_blkN ?_ | refine w_skip ?_ | refine w_ops ?_ | ((refine i_cond ?_); first | refine w_condT rfl ?_ | refine w_condF rfl ?_) | ((refine i_nil ?_); first | refine w_end2 rfl rfl ?_ | refine w_end3 rfl rfl rfl ?_) | ((refine i_cons ?_); first | refine k_len rfl ls ?_ | refine k_idxA (esz := 1) rfl rfl (by omega) ?_ | refine k_ld rfl rd ?_ | refine k_want rfl ?_ | refine k_mv rfl ?_ | refine k_pickF rfl rfl ?_ | refine k_add rfl rfl (by omega) ?_ | refine k_lssT rfl rfl (by omega) ?_ | refine k_lssF rfl rfl (by omega) ?_ | refine k_gtrF rfl rfl (by omega) ?_))
        refine w_roundN ⟨rfl, i + 1, by omega, fun y hy => ?_, rfl⟩ (by simp [cK, Env.keep, Env.get]; omega)
        rw [List.take_add_one, hx] at hy
        rcases List.mem_append.1 hy with hy | hy
        · exact hsm y hy
        · simp at hy; subst hy; exact ⟨by omega, by omega⟩
  · have : i = xs.length := by omega
    subst this
    rw [List.take_length] at hsm
    repeat' (first | refine w_seq ?_ | refine w_seqN ?_ | refine w_seqX ?_ | refine w_exit ?_ | refine w_ops ?_ | ((refine i_cond ?_); refine w_condF rfl ?_) | ((refine i_nil ?_); refine w_end3 rfl rfl rfl ?_) | ((refine i_cons ?_); first | refine k_len rfl ls ?_ | refine k_mv rfl ?_ | refine k_lssF rfl rfl (by omega) ?_))
    exact w_roundX ⟨rfl, .inl ⟨rfl, hsm, _, _, _, rfl⟩⟩
open Classical in
theorem call11 (h0 : Heap) (low : Int) (s : SV) (xs : List Int) (hs : IsInts h0 s xs) : ∃ r h', Cal FT HKt 11 [.sc (.int .i64 low), .sc s] h0 r h' ∧ h' = h0 ∧ r = .sc (.int .i64 (if smallP low xs then 1 else 0)) := by
  refine Cal.of (F := a11) rfl rfl rfl ?_
  have ls := IsSl.len hs
  by_cases h1 : 20 < xs.length
  · rw [if_neg fun h => by have := h.1; omega]
    repeat' (first | refine w_seq ?_ | refine w_seqN ?_ | refine w_seqR ?_ | refine w_ret ?_ | refine w_ops ?_ | ((refine i_cond ?_); refine w_condT rfl ?_) | ((refine i_nil ?_); first | refine w_end1 rfl ?_ | refine w_end2 rfl rfl ?_) | ((refine i_cons ?_); first | refine k_len rfl ls ?_ | refine k_skip rfl ?_ | refine k_mv rfl ?_ | refine k_pickT rfl rfl ?_ | refine k_gtrT rfl rfl (by omega) ?_))
    exact ⟨.inr rfl, rfl, rfl⟩
  by_cases h2 : low < -100
  · rw [if_neg fun h => by have := h.2.1; omega]
    repeat' (first | refine w_seq ?_ | refine w_seqN ?_ | refine w_seqR ?_ | refine w_ret ?_ | refine w_ops ?_ | ((refine i_cond ?_); refine w_condT rfl ?_) | ((refine i_nil ?_); first | refine w_end1 rfl ?_ | refine w_end2 rfl rfl ?_) | ((refine i_cons ?_); first | refine k_len rfl ls ?_ | refine k_skip rfl ?_ | refine k_want rfl ?_ | refine k_mv rfl ?_ | refine k_pickT rfl rfl ?_ | refine k_pickF rfl rfl ?_ | refine k_lssT rfl rfl (by omega) ?_ | refine k_gtrF rfl rfl (by omega) ?_))
    exact ⟨.inr rfl, rfl, rfl⟩
  by_cases h3 : 100 < low
  · rw [if_neg fun h => by have := h.2.2.1; omega]
    repeat' (first | refine w_seq ?_ | refine w_seqN ?_ | refine w_seqR ?_ | refine w_ret ?_ | refine w_ops ?_ | ((refine i_cond ?_); refine w_condT rfl ?_) | ((refine i_nil ?_); first | refine w_end1 rfl ?_ | refine w_end2 rfl rfl ?_) | ((refine i_cons ?_); first | refine k_len rfl ls ?_ | refine k_want rfl ?_ | refine k_mv rfl ?_ | refine k_pickF rfl rfl ?_ | refine k_lssF rfl rfl (by omega) ?_ | refine k_gtrT rfl rfl (by omega) ?_ | refine k_gtrF rfl rfl (by omega) ?_))
    exact ⟨.inr rfl, rfl, rfl⟩
  repeat' (first | refine w_seq ?_ | refine w_seqN ?_ | refine w_blk ?_ | refine w_skip ?_ | refine w_ops ?_ | ((refine i_cond ?_); refine w_condF rfl ?_) | ((refine i_nil ?_); refine w_end2 rfl rfl ?_) | ((refine i_cons ?_); first | refine k_len rfl ls ?_ | refine k_want rfl ?_ | refine k_mv rfl ?_ | refine k_pickF rfl rfl ?_ | refine k_lssF rfl rfl (by omega) ?_ | refine k_gtrF rfl rfl (by omega) ?_))
  refine w_loop (I11 h0 s xs) (cK [1, 5] xs.length 5) (R11 h0 xs) ⟨rfl, 0, Nat.zero_le _, by simp, rfl⟩ (round11 h0 s xs hs (by omega)) ?_
  rintro ex E' h ⟨rfl, ⟨rfl, hall, _, _, _, rfl⟩ | ⟨rfl, hn, rfl⟩⟩
  · rw [if_pos ⟨by omega, by omega, by omega, hall⟩]
    repeat' (first | refine w_seq ?_ | refine w_seqN ?_ | refine w_blkX ?_ | refine w_ret ?_ | refine w_ops ?_ | ((refine i_nil ?_); refine w_end1 rfl ?_) | ((refine i_cons ?_); refine k_mv rfl ?_))
    exact ⟨.inr rfl, rfl, rfl⟩
  · rw [if_neg fun h => hn h.2.2.2]
    repeat' (first | refine w_seqR ?_ | refine w_blkR ?_)
    exact ⟨.inr rfl, rfl, rfl⟩
theorem small_ofP {low : Int} {xs : List Int} (h : smallP low xs) : xs.length ≤ 1000000 ∧ (-9223372036854775808 ≤ low ∧ low ≤ 9223372036854775807) ∧ ∀ x ∈ xs, -9223372036854775808 ≤ x ∧ x ≤ 9223372036854775807 := by
  refine ⟨by have := h.1; omega, by have := h.2.1; have := h.2.2.1; omega, fun x hx => ?_⟩
  have := h.2.2.2 x hx
  unfold smC at this; omega
end Go.Proofs.YtlnjddjobbhcaaaDoor


namespace Go.Proofs.YtlnjddjobbhcaaaDoor
open Go.Ab
set_option linter.unusedVariables false
set_option linter.unusedSimpArgs false
section
variable {FT : FuncId → Option AFun} {HK : FuncId → Option Hook} {E : Env} {h h0 : Heap} {K : Env → Heap → Prop} {d : Option Nat} {r : List AOp} {x y xo so : AO} {m n : Int}
theorem k_bslD {a b z0 z1 : SV} (hx : ev E xo = some (.agg [a, b])) (hw : ∀ h1, Ext h h1 → srcCells h1 2 (.slc h.length 0 1 (some 1)) = some (1, [a, b]) → wOps FT HK r (bindE d (some (.sc (.slc h.length 0 1 (some 1)))) E) h1 K) :
    wOps FT HK (⟨d, .bsl 2 [z0, z1] 1 [(0, xo)], none⟩ :: r) E h K := by
  refine op_ok (v := some (.sc (.slc h.length 0 1 (some 1)))) (h' := h ++ [.cells [a, b] true 2]) rfl rfl ?_ (hw _ ⟨_, rfl⟩ (by simp [srcCells, readN, cut]))
  simp [step1, evParts, hx, AV.cells, fillA, rep, splice, ez2]
theorem k_appD1 {bytes : Nat} {s t a b : SV} {ps : List P2} {z2 : List SV} (he : Ext h0 h) (ho : OwnD h0 h s ps) (hs : evS E so = some s) (hx : evS E x = some t) (ht : srcCells h 2 t = some (1, [a, b])) (hb : (ps.length + 1) * (bytes + 1) ≤ bigN)
    (hw : ∀ s' h', OwnD h0 h' s' (ps ++ [(a, b)]) → Ext h0 h' → Fram h h' s s' → h.length ≤ h'.length → wOps FT HK r (bindE d (some (.sc s')) E) h' K) :
    wOps FT HK (⟨d, .app 2 bytes z2 so x, none⟩ :: r) E h K := by
  obtain ⟨s', h', h1, h2, h3, h4, h5⟩ := appD (bytes := bytes) he ho hb a b
  refine op_ok (v := some (.sc s')) (h' := h') rfl rfl ?_ (hw s' h' h2 h3 h5 h4)
  simp only [step1, hs, hx, Option.bind_some, ez2, ht, h1, Option.map_some]
theorem k_tdiv (hx : evS E x = some (.int .i64 m)) (hy : evS E y = some (.int .i64 n)) (hr : n ≠ 0 ∧ -9223372036854775808 ≤ m.tdiv n ∧ m.tdiv n ≤ 9223372036854775807) (hw : wOps FT HK r (bindE d (some (.sc (.int .i64 (m.tdiv n)))) E) h K) : wOps FT HK (⟨d, .bin .quo x y, none⟩ :: r) E h K := by
  refine op_wrap (n := m.tdiv n) rfl rfl ?_ hr.2 hw
  simp only [step1, hx, hy, Option.bind_some, binS, isShift, binI]
  rw [if_neg (by decide), if_pos trivial, if_neg hr.1]; rfl
theorem k_slD {S : SV} {ps : List P2} {lo : AO} {l : Int} (ho : OwnD h0 h S ps) (hx : evS E x = some S) (hl : evS E lo = some (.int .i64 l)) (hb : 0 ≤ l ∧ l ≤ ps.length)
    (hw : ∀ s', IsD h s' (ps.drop l.toNat) → wOps FT HK r (bindE d (some (.sc s')) E) h K) :
    wOps FT HK (⟨d, .sl 2 x (some lo) none, none⟩ :: r) E h K := by
  rcases ho with ⟨rfl, rfl⟩ | ⟨id, cap, bl, rfl, h1, h2, h3, h4⟩
  · have : l = 0 := by simp at hb; omega
    subst this
    refine op_ok (v := some (.sc .nilS)) (h' := h) rfl rfl ?_ (hw .nilS (IsD.nil _))
    simp [step1, hx, hl, lenS, bnd, sliceS]
  · refine op_ok (v := some (.sc (.slc id (0 + l.toNat * 2) (ps.length - l.toNat) (cap.map (· - l.toNat))))) (h' := h) rfl rfl ?_ (hw _ ?_)
    · have : l.toNat ≤ ps.length := by omega
      have h2' : l ≤ (ps.length : Int) := hb.2
      simp [step1, hx, hl, lenS, bnd, sliceS, h2, Blk.esz, ez2, this, hb.1, h2']
    · have hle := h4.le
      refine .inr ⟨id, 0 + l.toNat * 2, _, _, by rw [List.length_drop], h2, rfl, fun h => ?_, fun _ => ⟨_, _, rfl, ?_⟩⟩
      · rw [List.eq_nil_of_length_eq_zero h]; rfl
      · unfold cut
        simp only [ez2, List.length_drop]
        rw [if_pos (by omega), prs_drop, ← h3, List.drop_take, Nat.zero_add, Nat.sub_mul]
end
end Go.Proofs.YtlnjddjobbhcaaaDoor


namespace Go.Proofs.YtlnjddjobbhcaaaDoor
open Go.Ab
set_option linter.unusedVariables false
set_option linter.unusedSimpArgs false
set_option maxRecDepth 20000
set_option maxHeartbeats 4000000
attribute [local irreducible] wOps wA wSeq wBlk wRound wRoundI wOpsD wOpsS

section
variable {FT : FuncId → Option AFun} {HK : FuncId → Option Hook} {E : Env} {h : Heap} {K : Env → Heap → Prop} {d : Option Nat} {r : List AOp} {x : AO}
/-- The first cell of two is stored. -/
theorem k_stC0 {q : Nat} {a b v : SV} {p : AO} (ha : evS E p = some (.ptr q (0 + 0))) (hx : ev E x = some (.sc v)) (hc : Cel h q a b) (hw : ∀ h1, Wr h h1 q v b → wOps FT HK r (bindE d none E) h1 K) :
    wOps FT HK (⟨d, .st 1 p x, none⟩ :: r) E h K :=
  op_ok (v := none) (h' := h.set q (.cells [v, b] true 0)) rfl rfl (by
    have hc' : h[q]? = some (.cells [a, b] true 0) := hc
    simp [step1, ha, hx, AV.cells, writeN, hc', splice]) (hw _ ⟨rfl, _, _, hc⟩)
end
/-- A polynomial of the reference. -/
def IsRf (h : Heap) (v : AV) (p : Pol) : Prop := ∃ s, v = .agg [s, .bool p.big] ∧ IsD h s (tms p.ts)
theorem IsRf.ext {h h' : Heap} {v : AV} {p : Pol} (i : IsRf h v p) (e : Ext h h') : IsRf h' v p := by
  obtain ⟨s, h1, h2⟩ := i
  exact ⟨s, h1, h2.ext e⟩
structure St18 (h0 h : Heap) (q4 q5 : Nat) (b : Bool) (s : SV) (r : List Tm) : Prop where
  e : Ext h0 h
  c4 : Cel h q4 .nilS (.bool b)
  c5 : Cel h q5 s (.bool false)
  o : OwnD h0 h s (tms r)
  l : h0.length ≤ q4 ∧ q4 < q5
theorem St18.ext {h0 h h' : Heap} {q4 q5 : Nat} {b : Bool} {s : SV} {r : List Tm} (u : St18 h0 h q4 q5 b s r) (e : Ext h h') : St18 h0 h' q4 q5 b s r := ⟨u.e.trans e, u.c4.ext e, u.c5.ext e, u.o.ext e, u.l⟩
def I18 (h0 : Heap) (q4 q5 : Nat) (low : Int) (c : SV) (xs : List Int) (E : Env) (h : Heap) : Prop := ∃ (i : Nat) (r : List Tm) (s : SV), i ≤ xs.length ∧ ofN low xs i = some r ∧ St18 h0 h q4 q5 false s r ∧
  E.keep [0, 1, 4, 5, 6] = [(0, some (.sc (.int .i64 low))), (1, some (.sc c)), (4, some (.sc (.ptr q4 0))), (5, some (.sc (.ptr q5 0))), (6, some (.sc (.int .i64 (i : Nat))))]
def R18 (h0 : Heap) (q4 q5 : Nat) (low : Int) (xs : List Int) (ex : Ex) (E : Env) (h : Heap) : Prop :=
  (ex = .ex 0 ∧ ∃ r s a b c d, ofN low xs xs.length = some r ∧ St18 h0 h q4 q5 false s r ∧ E = [(0, a), (1, b), (4, some (.sc (.ptr q4 0))), (5, some (.sc (.ptr q5 0))), (6, c), (10, d)]) ∨
  (ex = .rt ∧ ofN low xs xs.length = none ∧ Ext h0 h ∧ Cel h q4 .nilS (.bool true) ∧ E = [(4, some (.sc (.ptr q4 0)))])
theorem round18 (h0 : Heap) (q4 q5 : Nat) (low : Int) (c : SV) (xs : List Int) (hs : smallP low xs) (hc : IsInts h0 c xs) (E : Env) (h : Heap) (hI : I18 h0 q4 q5 low c xs E h) :
    wA FT HKt b18L0 (E.keep [0, 1, 4, 5, 6]) h (wRound (I18 h0 q4 q5 low c xs) (cK [0, 1, 4, 5, 6] xs.length 6) (cK [0, 1, 4, 5, 6] xs.length 6 E h) (R18 h0 q4 q5 low xs)) := by
  obtain ⟨i, r, s, hi, hr, st, hE⟩ := hI
  have hm : cK [0, 1, 4, 5, 6] xs.length 6 E h = xs.length - i := by unfold cK; rw [hE]; rfl
  rw [hm, hE]
  have ls := IsSl.len hc
  obtain ⟨n20, hl1, hl2, hxs⟩ := hs
  by_cases hlt : i < xs.length
  · obtain ⟨x, hx⟩ : ∃ x, xs[i]? = some x := ⟨_, List.getElem?_eq_getElem hlt⟩
    have hx2 : xs.getD i 0 = x := by rw [List.getD_eq_getElem?_getD, hx]; rfl
    obtain ⟨id, off, cap, rfl, rd0⟩ := IsInts.at hc hx
    have rd := readN_ext st.e rd0
    have c4 := st.c4
    have c5 := st.c5
    have l := st.l
    by_cases hz : x = 0
    · have en : ofN low xs (i + 1) = some r := by rw [ofN, hr, Option.bind_some, hx2, if_pos hz]
      subst hz
      repeat' (first | refine w_seq ?_ | refine w_seqN ?_ | refine w_seqX ?_ | refine w_blk ?_ | refine w_blkX ?_ | refine w_skip ?_ | refine w_exit ?_ | refine w_ops ?_ | ((refine i_cond ?_); refine w_condT rfl ?_) | ((refine i_nil ?_); first | refine w_end5 rfl rfl rfl rfl rfl ?_ | refine w_end6 rfl rfl rfl rfl rfl rfl ?_) | ((refine i_cons ?_); first | refine k_len rfl ls ?_ | refine k_idxA (esz := 1) rfl rfl (by omega) ?_ | refine k_ld rfl rd ?_ | refine k_mv rfl ?_ | refine k_add rfl rfl (by omega) ?_ | refine k_lssT rfl rfl (by omega) ?_ | refine k_eqlT rfl rfl (by omega) ?_))
      exact w_roundN ⟨i + 1, r, s, by omega, en, st, rfl⟩ (by simp [cK, Env.keep, Env.get]; omega)
    by_cases a1 : x.natAbs ≤ 1125899906842624
    · have en : ofN low xs (i + 1) = some (r ++ [(low + i, x)]) := by rw [ofN, hr, Option.bind_some, hx2, if_neg hz, if_pos ⟨a1, by simp only [eM]; omega, by simp only [eM]; omega⟩]
      have hrl := ofN_len hr
      repeat' (first | refine w_seq ?_ | refine w_seqN ?_ | refine w_blk ?_ | refine w_blkN ?_ | refine w_skip ?_ | refine w_ops ?_ | refine w_opsD ?_ | refine d_one ?_ | refine d_nil ?_ | ((refine i_cond ?_); first | refine w_condT rfl ?_ | refine w_condF rfl ?_) | ((refine i_nil ?_); first | refine d_same ?_ | refine d_ord ?_ | refine d_ext (by assumption) ?_ | refine w_end5 rfl rfl rfl rfl rfl ?_ | refine w_end6 rfl rfl rfl rfl rfl rfl ?_) | ((refine i_cons ?_); first | refine k_len rfl ls ?_ | refine k_idxA (esz := 1) rfl rfl (by omega) ?_ | refine k_ld rfl rd ?_ | refine k_fldA rfl ?_ | refine k_ldC0 rfl c5 ?_ | (refine k_bld rfl rfl ?_) | (refine k_bslD rfl ?_; intro h8 e8 src8; have st8 := st.ext e8) | (refine k_appD1 st8.e st8.o rfl rfl src8 (by rw [tms_len]; simp only [bigN]; omega) ?_; intro s' h2 o2 e2 f2 l2; have d5 := st8.c5.fram f2 (st8.o.cel st8.c5); have d4 := st8.c4.fram f2 (st8.o.cel st8.c4)) | (refine k_stC0 rfl rfl d5 ?_; intro h3 w3) | refine k_want rfl ?_ | refine k_mv rfl ?_ | refine k_pickF rfl rfl ?_ | refine k_add rfl rfl (by omega) ?_ | refine k_lssT rfl rfl (by omega) ?_ | refine k_lssF rfl rfl (by omega) ?_ | refine k_gtrF rfl rfl (by omega) ?_ | refine k_eqlF rfl rfl (by omega) ?_))
      refine w_roundN ⟨i + 1, _, s', by omega, en, ⟨w3.ext e2 (by omega), w3.keep d4 (by omega), w3.cel, ?_, l⟩, rfl⟩ (by simp [cK, Env.keep, Env.get]; omega)
      have := o2.wrC w3
      simpa [tms, tmP] using this
    · have en : ofN low xs (i + 1) = none := by rw [ofN, hr, Option.bind_some, hx2, if_neg hz, if_neg (fun h => a1 h.1)]
      by_cases a2 : x < -1125899906842624
      · repeat' (first | refine w_seq ?_ | refine w_seqN ?_ | refine w_seqR ?_ | refine w_blk ?_ | refine w_blkR ?_ | refine w_skip ?_ | refine w_ret ?_ | refine w_ops ?_ | ((refine i_cond ?_); first | refine w_condT rfl ?_ | refine w_condF rfl ?_) | ((refine i_nil ?_); first | refine w_end1 rfl ?_ | refine w_end6 rfl rfl rfl rfl rfl rfl ?_) | ((refine i_cons ?_); first | refine k_len rfl ls ?_ | refine k_idxA (esz := 1) rfl rfl (by omega) ?_ | refine k_ld rfl rd ?_ | (refine k_bld rfl rfl ?_) | (refine k_stC rfl rfl c4 ?_; intro h3 w3) | refine k_skip rfl ?_ | refine k_mv rfl ?_ | refine k_pickT rfl rfl ?_ | refine k_lssT rfl rfl (by omega) ?_ | refine k_eqlF rfl rfl (by omega) ?_))
        exact w_roundR (.inr ⟨rfl, ofN_none (by omega) en, w3.ext st.e l.1, w3.cel, rfl⟩)
      · repeat' (first | refine w_seq ?_ | refine w_seqN ?_ | refine w_seqR ?_ | refine w_blk ?_ | refine w_blkR ?_ | refine w_skip ?_ | refine w_ret ?_ | refine w_ops ?_ | ((refine i_cond ?_); first | refine w_condT rfl ?_ | refine w_condF rfl ?_) | ((refine i_nil ?_); first | refine w_end1 rfl ?_ | refine w_end6 rfl rfl rfl rfl rfl rfl ?_) | ((refine i_cons ?_); first | refine k_len rfl ls ?_ | refine k_idxA (esz := 1) rfl rfl (by omega) ?_ | refine k_ld rfl rd ?_ | (refine k_bld rfl rfl ?_) | (refine k_stC rfl rfl c4 ?_; intro h3 w3) | refine k_skip rfl ?_ | refine k_want rfl ?_ | refine k_mv rfl ?_ | refine k_pickT rfl rfl ?_ | refine k_pickF rfl rfl ?_ | refine k_lssT rfl rfl (by omega) ?_ | refine k_lssF rfl rfl (by omega) ?_ | refine k_gtrT rfl rfl (by omega) ?_ | refine k_eqlF rfl rfl (by omega) ?_))
        exact w_roundR (.inr ⟨rfl, ofN_none (by omega) en, w3.ext st.e l.1, w3.cel, rfl⟩)
  · have : i = xs.length := by omega
    subst this
    repeat' (first | refine w_seq ?_ | refine w_seqN ?_ | refine w_seqX ?_ | refine w_exit ?_ | refine w_ops ?_ | ((refine i_cond ?_); refine w_condF rfl ?_) | ((refine i_nil ?_); refine w_end6 rfl rfl rfl rfl rfl rfl ?_) | ((refine i_cons ?_); first | refine k_len rfl ls ?_ | refine k_mv rfl ?_ | refine k_lssF rfl rfl (by omega) ?_))
    exact w_roundX (.inl ⟨rfl, r, s, _, _, _, _, hr, st, rfl⟩)
theorem call18 (h0 : Heap) (low : Int) (c : SV) (xs : List Int) (hs : smallP low xs) (hc : IsInts h0 c xs) : ∃ r h', Cal FT HKt 18 [.sc (.int .i64 low), .sc c] h0 r h' ∧ Ext h0 h' ∧ IsRf h' r (ofP low xs) := by
  refine Cal.of (F := a18) rfl rfl rfl ?_
  repeat' (first | refine w_seq ?_ | refine w_seqN ?_ | refine w_blk ?_ | refine w_ops ?_ | ((refine i_nil ?_); first | refine w_end3 rfl rfl rfl ?_ | refine w_end4 rfl rfl rfl rfl ?_ | refine w_end5 rfl rfl rfl rfl rfl ?_) | ((refine i_cons ?_); first | (have z := e1; refine k_newC ?_; intro h2 e2 c2; have d1 := c1.ext e2; have m1 := c1.lt) | (refine k_newC ?_; intro h1 e1 c1) | refine k_mv rfl ?_))
  refine w_loop (I18 h0 h0.length h1.length low c xs) (cK [0, 1, 4, 5, 6] xs.length 6) (R18 h0 h0.length h1.length low xs) ⟨0, [], .nilS, Nat.zero_le _, rfl, ⟨e1.trans e2, d1, c2, .inl ⟨rfl, rfl⟩, ⟨Nat.le_refl _, m1⟩⟩, rfl⟩ (round18 h0 h0.length h1.length low c xs hs hc) ?_
  rintro ex E' h3 (⟨rfl, r, s, _, _, _, _, hr, st, rfl⟩ | ⟨rfl, hr, e3, c4, rfl⟩)
  · have c4 := st.c4
    repeat' (first | refine w_seq ?_ | refine w_seqN ?_ | refine w_blkX ?_ | refine w_ret ?_ | refine w_ops ?_ | ((refine i_nil ?_); refine w_end1 rfl ?_) | ((refine i_cons ?_); first | refine k_ldC rfl st.c5 ?_ | (refine k_stC rfl rfl c4 ?_; intro h4 w4)))
    refine ⟨.inr rfl, oK_cell rfl w4.cel.read ⟨w4.ext st.e (Nat.le_refl _), s, ?_, ?_⟩⟩
    · unfold ofP; rw [hr]
    · unfold ofP; rw [hr]
      exact (st.o.wrC w4).is
  · repeat' (first | refine w_seqR ?_ | refine w_blkR ?_)
    refine ⟨.inr rfl, oK_cell rfl c4.read ⟨e3, .nilS, ?_, ?_⟩⟩
    · unfold ofP; rw [hr]
    · unfold ofP; rw [hr]
      exact IsD.nil _
end Go.Proofs.YtlnjddjobbhcaaaDoor


