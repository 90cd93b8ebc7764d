/- Contracts: Shift; the rotations. -/
import Derived.Test.YtadelcikpkhclaaDoorG5
namespace Go.Proofs.YtadelcikpkhclaaDoor
open Go.Ab
set_option linter.unusedVariables false
set_option maxRecDepth 20000
attribute [local irreducible] wOps wA wSeq wBlk wRound wOpsD
variable {HK : FuncId → Option Hook}

theorem vg_iff (g : Gr) : VG g.1 g.2 ↔ Vg g.1.length g := by
  constructor
  · rintro ⟨h1, h2, h3, h4, h5, h6⟩
    have hr2 : ∀ x ∈ g.2, In01 g.1.length x := by rw [← h3]; exact h6.1
    refine ⟨⟨⟨by omega, ⟨rfl, h3⟩, h5.1, hr2⟩, h5.2, h6.2⟩, h1, h2, fun i hi e => h4 i hi ?_⟩
    rw [atN_get hi, atN_get (by rw [h3]; exact hi), e]
  · intro h
    have r2 := h.vd.rg.r2
    rw [← h.vd.rg.sz.2] at r2
    refine ⟨h.two, h.few, h.vd.rg.sz.2, fun i hi e => h.df i hi ?_, ⟨h.vd.rg.r1, h.vd.n1⟩, ⟨r2, h.vd.n2⟩⟩
    rw [atN_get hi, atN_get (by rw [h.vd.rg.sz.2]; exact hi)] at e
    exact Option.some.inj e

/-- A grid diagram in memory. -/
structure IsG (h : Heap) (X O : SV) (g : Gr) : Prop where
  x : IsInts h X g.1
  o : IsInts h O g.2
theorem IsG.ext {h h' : Heap} {X O : SV} {g : Gr} (hg : IsG h X O g) (he : Ext h h') : IsG h' X O g := ⟨IsSl.ext hg.x he, IsSl.ext hg.o he⟩
theorem IsG.app {h : Heap} {X O : SV} {g : Gr} (L : Heap) (hg : IsG h X O g) : IsG (h ++ L) X O g := hg.ext ⟨L, rfl⟩
theorem IsG.setL {h0 L : Heap} {X O : SV} {g : Gr} {k : Nat} {b0 b : Blk} (h : IsG (h0 ++ L) X O g) (hL : L[k]? = some b0) (hz : b0.esz ≠ 1) : IsG (h0 ++ L.set k b) X O g := ⟨IsSl.setL h.x hL hz, IsSl.setL h.o hL hz⟩

abbrev gX (h : Heap) (X O : SV) (g : Gr) (n : Nat) := IsG h X O g
set_option maxHeartbeats 1000000 in
theorem tr39 (hk : HK 39 = none) (h0 : Heap) (X O : SV) (n : Nat) (g : Gr) (c r : Int) (hg : IsG h0 X O g) (h : Rg n g) (hn : n ≤ 1000) (hc : 0 ≤ c ∧ c ≤ 1000000) (hr : 0 ≤ r ∧ r ≤ 1000000) :
    ∃ v h', Cal FT HK 39 [.agg [X, O], .sc (.int .i64 c), .sc (.int .i64 r)] h0 v h' ∧ Ext h0 h' ∧ ∃ X' O', v = .agg [X', O'] ∧ IsG h' X' O' (tr c r g) := by
  obtain ⟨v, h', k1, X', O', k2, k3, k4, k5⟩ := call39 hk h0 X O n c r g.1 g.2 ⟨h.pos, hn⟩ hc hr hg.x hg.o h.sz.1 h.sz.2 h.r1 h.r2
  exact ⟨v, h', k1, k5, X', O', k2, k3, k4⟩
theorem tr28 (hk : HK 28 = none) (hk2 : HK 42 = none) (h0 : Heap) (X O : SV) (n : Nat) (g : Gr) (c r : Int) (hg : IsG h0 X O g) (h : Rg n g) (hn : n ≤ 1000) :
    ∃ v h', Cal FT HK 28 [.agg [X, O], .sc (.int .i64 c), .sc (.int .i64 r)] h0 v h' ∧ Ext h0 h' ∧ ∃ X' O', v = .agg [X', O'] ∧ IsG h' X' O' (tr c r g) := by
  obtain ⟨v, h', k1, X', O', k2, k3, k4, k5⟩ := call28 hk hk2 h0 X O n c r g.1 g.2 ⟨h.pos, hn⟩ hg.x hg.o h.sz.1 h.sz.2 h.r1 h.r2
  exact ⟨v, h', k1, k5, X', O', k2, k3, k4⟩
theorem valid13 (hk : HK 13 = none) (hk2 : HK 34 = none) (h0 : Heap) (X O : SV) (g : Gr) (hg : IsG h0 X O g) :
    ∃ v h', Cal FT HK 13 [.agg [X, O]] h0 v h' ∧ Ext h0 h' ∧ v = .sc (.bool (decide (VG g.1 g.2))) := call13 hk hk2 h0 X O g.1 g.2 hg.x hg.o

/-! ### Shift -/
set_option maxHeartbeats 1000000 in
theorem call23 (hk : HK 23 = none) (hk1 : HK 13 = none) (hk2 : HK 34 = none) (hk3 : HK 39 = none) (h0 : Heap) (X O : SV) (g : Gr) (c r : Int) (hg : IsG h0 X O g) (hv : VG g.1 g.2) :
    ∃ v h', Cal FT HK 23 [.agg [X, O], .sc (.int .i64 c), .sc (.int .i64 r)] h0 v h' ∧ Ext h0 h' ∧ ∃ X' O', v = .tup [.agg [X', O'], .sc (.int .i64 0)] ∧ IsG h' X' O' (tr c r g) := by
  refine Cal.of (F := a23) hk rfl rfl ?_
  have hV := (vg_iff g).1 hv
  have hl1 := IsSl.len hg.x
  have n2 := hV.two
  have n40 := hV.few
  generalize hn : g.1.length = n at *
  have hrg := hV.vd.rg
  have hc := tmod_bd (x := c) (n := n) (by omega)
  have hr := tmod_bd (x := r) (n := n) (by omega)
  have fc := mod_fix (x := c) (n := n) (by omega)
  have fr := mod_fix (x := r) (n := n) (by omega)
  have bc1 : 0 ≤ c % n := Int.emod_nonneg _ (by omega)
  have bc2 : c % n < n := Int.emod_lt_of_pos _ (by omega)
  have br1 : 0 ≤ r % n := Int.emod_nonneg _ (by omega)
  have br2 : r % n < n := Int.emod_lt_of_pos _ (by omega)
  have k1 := valid13 (HK := HK) hk1 hk2 (h0 ++ [.cells [X, O] true 0, .cells [.nilS, .nilS] true 0]) X O g (hg.app _)
  rw [decide_eq_true hv] at k1
  have k2 := fun T => tr39 (HK := HK) hk3 (h0 ++ ([.cells [X, O] true 0, .cells [.nilS, .nilS] true 0] ++ T)) X O n g ((c.tmod n + n).tmod n) ((r.tmod n + n).tmod n) (hg.app _) hrg (by omega) (by rw [fc]; omega) (by rw [fr]; omega)
  repeat' (first
    | refine w_seq ?_
    | refine w_seqN ?_
    | refine w_seqX ?_
    | refine w_seqR ?_
    | refine w_blk ?_
    | refine w_blkN ?_
    | refine w_blkX ?_
    | refine w_blkR ?_
    | refine w_skip ?_
    | refine w_ret ?_
    | refine w_exit ?_
    | refine w_ops ?_
    | refine w_opsD ?_
    | refine d_one ?_
    | refine d_nil ?_
    | ((refine i_cond ?_); first | refine w_condT rfl ?_ | refine w_condF rfl ?_)
    | ((refine i_nil ?_); first | refine d_same ?_ | refine d_ord ?_ | refine d_ext ⟨_, rfl⟩ ?_ | refine d_ext (extA _ _ _) ?_ | refine d_ext (by assumption) ?_ | refine w_end0 ?_ | refine w_end1 rfl ?_ | refine w_end2 rfl rfl ?_ | refine w_end3 rfl rfl rfl ?_ | refine w_end4 rfl rfl rfl rfl ?_ | refine w_end5 rfl rfl rfl rfl rfl ?_ | refine w_end6 rfl rfl rfl rfl rfl rfl ?_ | refine w_end7 rfl rfl rfl rfl rfl rfl rfl ?_ | refine w_end8 rfl rfl rfl rfl rfl rfl rfl rfl ?_ | refine w_end9 rfl rfl rfl rfl rfl rfl rfl rfl rfl ?_ | refine w_end10 rfl rfl rfl rfl rfl rfl rfl rfl rfl rfl ?_ | refine w_end11 rfl rfl rfl rfl rfl rfl rfl rfl rfl rfl rfl ?_ | refine w_end12 rfl rfl rfl rfl rfl rfl rfl rfl rfl rfl rfl rfl ?_ | refine w_end13 rfl rfl rfl rfl rfl rfl rfl rfl rfl rfl rfl rfl rfl ?_ | refine w_end14 rfl rfl rfl rfl rfl rfl rfl rfl rfl rfl rfl rfl rfl rfl ?_ | refine w_end15 rfl rfl rfl rfl rfl rfl rfl rfl rfl rfl rfl rfl rfl rfl rfl ?_ | refine w_end16 rfl rfl rfl rfl rfl rfl rfl rfl rfl rfl rfl rfl rfl rfl rfl rfl ?_)
    | ((refine i_cons ?_); first
      | refine k_box0 rfl rfl ?_
      | refine k_newL ?_
      | refine k_ldAL rfl rfl ?_
      | refine k_ldL rfl rfl ?_
      | refine k_len rfl hl1 ?_
      | refine k_tmod rfl rfl (by omega) ?_
      | (refine k_call rfl k1 ?_; rintro v h1 ⟨he, rfl⟩; obtain ⟨T, rfl⟩ := extL he)
      | (refine k_call rfl (k2 _) ?_; rintro v h1 ⟨he, X', O', rfl, hG⟩; obtain ⟨T2, rfl⟩ := extL he)
      | refine k_stL rfl rfl rfl rfl rfl ?_
      | refine k_skip rfl ?_
      | refine k_skipU rfl ?_
      | refine k_want rfl ?_
      | refine k_mv rfl ?_
      | refine k_pickT rfl rfl ?_
      | refine k_pickF rfl rfl ?_
      | refine k_notT rfl ?_
      | refine k_notF rfl ?_
      | refine k_add rfl rfl (by omega) ?_
      | refine k_sub rfl rfl (by omega) ?_
      | refine k_mul rfl rfl (by omega) ?_
      | refine k_neg rfl (by omega) ?_
      | refine k_quo rfl rfl (by omega) ?_
      | refine k_rem rfl rfl (by omega) ?_
      | refine k_conv rfl (by omega) ?_
      | refine k_max rfl rfl ?_
      | refine k_min rfl rfl ?_
      | refine k_lssT rfl rfl (by omega) ?_
      | refine k_lssF rfl rfl (by omega) ?_
      | refine k_lss rfl rfl (fun hc => ?_) (fun hc => ?_)
      | refine k_leqT rfl rfl (by omega) ?_
      | refine k_leqF rfl rfl (by omega) ?_
      | refine k_leq rfl rfl (fun hc => ?_) (fun hc => ?_)
      | refine k_gtrT rfl rfl (by omega) ?_
      | refine k_gtrF rfl rfl (by omega) ?_
      | refine k_gtr rfl rfl (fun hc => ?_) (fun hc => ?_)
      | refine k_geqT rfl rfl (by omega) ?_
      | refine k_geqF rfl rfl (by omega) ?_
      | refine k_geq rfl rfl (fun hc => ?_) (fun hc => ?_)
      | refine k_eqlT rfl rfl (by omega) ?_
      | refine k_eqlF rfl rfl (by omega) ?_
      | refine k_eql rfl rfl (fun hc => ?_) (fun hc => ?_)
      | refine k_neqT rfl rfl (by omega) ?_
      | refine k_neqF rfl rfl (by omega) ?_
      | refine k_neq rfl rfl (fun hc => ?_) (fun hc => ?_)
      | refine k_len rfl rfl ?_
      | refine k_ok rfl rfl ?_))
  refine ⟨.inr rfl, oK_cellt rfl (by rw [rdA]; rfl) rfl ⟨⟨_, rfl⟩, _, _, rfl, ?_⟩⟩
  rw [fc, fr] at hG
  rw [show tr (c % n) (r % n) g = tr c r g from tr_mod hrg (Int.emod_emod_of_dvd _ (Int.dvd_refl _)) (Int.emod_emod_of_dvd _ (Int.dvd_refl _))] at hG
  exact IsG.setL hG rfl (by decide)
set_option maxHeartbeats 1000000 in
theorem call23e (hk : HK 23 = none) (hk1 : HK 13 = none) (hk2 : HK 34 = none) (h0 : Heap) (X O : SV) (g : Gr) (c r : Int) (hg : IsG h0 X O g) (hv : ¬ VG g.1 g.2) :
    ∃ v h', Cal FT HK 23 [.agg [X, O], .sc (.int .i64 c), .sc (.int .i64 r)] h0 v h' ∧ Ext h0 h' ∧ v = .tup [.agg [.nilS, .nilS], .sc (.int .i64 1)] := by
  refine Cal.of (F := a23) hk rfl rfl ?_
  have k1 := valid13 (HK := HK) hk1 hk2 (h0 ++ [.cells [X, O] true 0, .cells [.nilS, .nilS] true 0]) X O g (hg.app _)
  rw [decide_eq_false hv] at k1
  repeat' (first
    | refine w_seq ?_
    | refine w_seqN ?_
    | refine w_seqX ?_
    | refine w_seqR ?_
    | refine w_blk ?_
    | refine w_blkN ?_
    | refine w_blkX ?_
    | refine w_blkR ?_
    | refine w_skip ?_
    | refine w_ret ?_
    | refine w_exit ?_
    | refine w_ops ?_
    | refine w_opsD ?_
    | refine d_one ?_
    | refine d_nil ?_
    | ((refine i_cond ?_); first | refine w_condT rfl ?_ | refine w_condF rfl ?_)
    | ((refine i_nil ?_); first | refine d_same ?_ | refine d_ord ?_ | refine d_ext ⟨_, rfl⟩ ?_ | refine d_ext (extA _ _ _) ?_ | refine d_ext (by assumption) ?_ | refine w_end0 ?_ | refine w_end1 rfl ?_ | refine w_end2 rfl rfl ?_ | refine w_end3 rfl rfl rfl ?_ | refine w_end4 rfl rfl rfl rfl ?_ | refine w_end5 rfl rfl rfl rfl rfl ?_ | refine w_end6 rfl rfl rfl rfl rfl rfl ?_ | refine w_end7 rfl rfl rfl rfl rfl rfl rfl ?_ | refine w_end8 rfl rfl rfl rfl rfl rfl rfl rfl ?_ | refine w_end9 rfl rfl rfl rfl rfl rfl rfl rfl rfl ?_ | refine w_end10 rfl rfl rfl rfl rfl rfl rfl rfl rfl rfl ?_ | refine w_end11 rfl rfl rfl rfl rfl rfl rfl rfl rfl rfl rfl ?_ | refine w_end12 rfl rfl rfl rfl rfl rfl rfl rfl rfl rfl rfl rfl ?_ | refine w_end13 rfl rfl rfl rfl rfl rfl rfl rfl rfl rfl rfl rfl rfl ?_ | refine w_end14 rfl rfl rfl rfl rfl rfl rfl rfl rfl rfl rfl rfl rfl rfl ?_ | refine w_end15 rfl rfl rfl rfl rfl rfl rfl rfl rfl rfl rfl rfl rfl rfl rfl ?_ | refine w_end16 rfl rfl rfl rfl rfl rfl rfl rfl rfl rfl rfl rfl rfl rfl rfl rfl ?_)
    | ((refine i_cons ?_); first
      | refine k_box0 rfl rfl ?_
      | refine k_newL ?_
      | refine k_ldAL rfl rfl ?_
      | (refine k_call rfl k1 ?_; rintro v h1 ⟨he, rfl⟩; obtain ⟨T, rfl⟩ := extL he)
      | refine k_bld rfl rfl ?_
      | refine k_stL rfl rfl rfl rfl rfl ?_
      | refine k_skip rfl ?_
      | refine k_skipU rfl ?_
      | refine k_want rfl ?_
      | refine k_mv rfl ?_
      | refine k_pickT rfl rfl ?_
      | refine k_pickF rfl rfl ?_
      | refine k_notT rfl ?_
      | refine k_notF rfl ?_
      | refine k_add rfl rfl (by omega) ?_
      | refine k_sub rfl rfl (by omega) ?_
      | refine k_mul rfl rfl (by omega) ?_
      | refine k_neg rfl (by omega) ?_
      | refine k_quo rfl rfl (by omega) ?_
      | refine k_rem rfl rfl (by omega) ?_
      | refine k_conv rfl (by omega) ?_
      | refine k_max rfl rfl ?_
      | refine k_min rfl rfl ?_
      | refine k_lssT rfl rfl (by omega) ?_
      | refine k_lssF rfl rfl (by omega) ?_
      | refine k_lss rfl rfl (fun hc => ?_) (fun hc => ?_)
      | refine k_leqT rfl rfl (by omega) ?_
      | refine k_leqF rfl rfl (by omega) ?_
      | refine k_leq rfl rfl (fun hc => ?_) (fun hc => ?_)
      | refine k_gtrT rfl rfl (by omega) ?_
      | refine k_gtrF rfl rfl (by omega) ?_
      | refine k_gtr rfl rfl (fun hc => ?_) (fun hc => ?_)
      | refine k_geqT rfl rfl (by omega) ?_
      | refine k_geqF rfl rfl (by omega) ?_
      | refine k_geq rfl rfl (fun hc => ?_) (fun hc => ?_)
      | refine k_eqlT rfl rfl (by omega) ?_
      | refine k_eqlF rfl rfl (by omega) ?_
      | refine k_eql rfl rfl (fun hc => ?_) (fun hc => ?_)
      | refine k_neqT rfl rfl (by omega) ?_
      | refine k_neqF rfl rfl (by omega) ?_
      | refine k_neq rfl rfl (fun hc => ?_) (fun hc => ?_)
      | refine k_len rfl rfl ?_
      | refine k_ok rfl rfl ?_))
  exact ⟨.inr rfl, oK_cellt rfl (by rw [rdA]; rfl) rfl ⟨⟨_, rfl⟩, rfl⟩⟩

/-! ### The rotations -/
def L21 (B : Heap) (n : Nat) (ys zs : List Int) : Heap := [.cells (ints ys) true 1, .cells (ints zs) true 1, .cells [.slc (B.length + 0) 0 n (some n), .slc (B.length + 1) 0 n (some n)] true 0]
def f21 (n : Nat) (xs : List Int) (i : Nat) : Nat := ((n : Int) - 1 - atN xs i).toNat
def v21 (i : Nat) : Int := (i : Int)
def S21 (n : Nat) (xs : List Int) (i : Nat) : List Int := scat (zeros n) (f21 n xs) v21 i
theorem S21_end {n : Nat} {xs : List Int} (h : Pm n xs) : S21 n xs n = turnL xs := scat_turn h
theorem S21_len (n : Nat) (xs : List Int) (i : Nat) : (S21 n xs i).length = n := by unfold S21; rw [scat_len, List.length_replicate]

def I21 (B : Heap) (p q : Nat) (n : Nat) (g : Gr) (E : Env) (h : Heap) : Prop := ∃ i : Nat, i ≤ n ∧ h = B ++ L21 B n (S21 n g.2 i) (S21 n g.1 i) ∧
  E = [(1, some (.sc (.ptr p 0))), (2, some (.sc (.ptr q 0))), (4, some (.sc (.int .i64 n))), (5, some (.sc (.ptr (B.length + 2) 0))), (19, some (.sc (.int .i64 n))), (20, some (.sc (.int .i64 i)))]
def R21 (B : Heap) (p q : Nat) (n : Nat) (g : Gr) (ex : Ex) (E : Env) (h : Heap) : Prop := ex = .ex 0 ∧ h = B ++ L21 B n (S21 n g.2 n) (S21 n g.1 n) ∧ ∃ a b c d,
  E = [(1, a), (2, some (.sc (.ptr q 0))), (4, b), (5, some (.sc (.ptr (B.length + 2) 0))), (19, c), (20, d), (21, some (.sc (.bool false)))]
def I27 (B : Heap) (p q : Nat) (n : Nat) (g : Gr) (E : Env) (h : Heap) : Prop := ∃ i : Nat, i ≤ n ∧ h = B ++ L21 B n (S21 n g.2 i) (S21 n g.1 i) ∧
  E = [(1, some (.sc (.ptr p 0))), (2, some (.sc (.ptr q 0))), (3, some (.sc (.int .i64 n))), (4, some (.sc (.ptr (B.length + 2) 0))), (5, some (.sc (.int .i64 i)))]
def R27 (B : Heap) (p q : Nat) (n : Nat) (g : Gr) (ex : Ex) (E : Env) (h : Heap) : Prop := ex = .ex 0 ∧ h = B ++ L21 B n (S21 n g.2 n) (S21 n g.1 n) ∧ ∃ a b c,
  E = [(1, a), (2, some (.sc (.ptr q 0))), (3, b), (4, some (.sc (.ptr (B.length + 2) 0))), (5, c), (16, some (.sc (.bool false)))]

theorem f21_lt {n : Nat} {xs : List Int} (h : Pm n xs) {i : Nat} (hi : i < n) : ((n : Int) - 1 - atN xs i).toNat < n ∧ 0 ≤ (n : Int) - 1 - atN xs i := by
  have := h.in hi
  unfold In01 at this
  omega

set_option maxHeartbeats 1000000 in
theorem round21 (B : Heap) (p q : Nat) (X O : SV) (n : Nat) (g : Gr) (hb : Blk.At B p [X, O]) (hg : IsG B X O g) (hv : Vd n g) (hn : n ≤ 1000) (E : Env) (h : Heap) (hI : I21 B p q n g E h) :
    wA FT HK b21L0 (E.keep [1, 2, 4, 5, 19, 20]) h (wRound (I21 B p q n g) (cnt n 20) (cnt n 20 E h) (R21 B p q n g)) := by
  obtain ⟨i, hi, rfl, rfl⟩ := hI
  by_cases hlt : i < n
  · have bx := f21_lt hv.p1 hlt
    have bo := f21_lt hv.p2 hlt
    have ix := hv.p1.in hlt
    have io := hv.p2.in hlt
    unfold In01 at ix io
    have e1 := hv.p1.len
    have e2 := hv.p2.len
    have bA : ∀ L, Blk.At (B ++ L) p [X, O] := fun L => hb.ext ⟨L, rfl⟩
    obtain ⟨iX, oX, cX, rfl, hrX⟩ := IsInts.at (hg.app (L21 B n (S21 n g.2 i) (S21 n g.1 i))).x (atN_get (xs := g.1) (k := i) (by omega))
    obtain ⟨iO, oO, cO, rfl, hrO⟩ := IsInts.at (hg.app (L21 B n (S21 n g.2 i) (S21 n g.1 (i + 1)))).o (atN_get (xs := g.2) (k := i) (by omega))
    have w1 : writeN (L21 B n (S21 n g.2 i) (S21 n g.1 i)) 1 (0 + ((n : Int) - 1 - atN g.1 i).toNat * 1) [.int .i64 (i : Int)] = some (L21 B n (S21 n g.2 i) (S21 n g.1 (i + 1))) :=
      wrI (L := L21 _ _ _ _) rfl (Nat.lt_of_lt_of_eq bx.1 (S21_len _ _ _).symm) _
    have w2 : writeN (L21 B n (S21 n g.2 i) (S21 n g.1 (i + 1))) 0 (0 + ((n : Int) - 1 - atN g.2 i).toNat * 1) [.int .i64 (i : Int)] = some (L21 B n (S21 n g.2 (i + 1)) (S21 n g.1 (i + 1))) :=
      wrI (L := L21 _ _ _ _) rfl (Nat.lt_of_lt_of_eq bo.1 (S21_len _ _ _).symm) _
    repeat' (first
      | refine w_seq ?_
      | refine w_seqN ?_
      | refine w_seqX ?_
      | refine w_seqR ?_
      | refine w_blk ?_
      | refine w_blkN ?_
      | refine w_blkX ?_
      | refine w_blkR ?_
      | refine w_skip ?_
      | refine w_ret ?_
      | refine w_exit ?_
      | refine w_ops ?_
      | refine w_opsD ?_
      | refine d_one ?_
      | refine d_nil ?_
      | ((refine i_cond ?_); first | refine w_condT rfl ?_ | refine w_condF rfl ?_)
      | ((refine i_nil ?_); first | refine d_same ?_ | refine d_ord ?_ | refine d_ext ⟨_, rfl⟩ ?_ | refine d_ext (extA _ _ _) ?_ | refine d_ext (by assumption) ?_ | refine w_end0 ?_ | refine w_end1 rfl ?_ | refine w_end2 rfl rfl ?_ | refine w_end3 rfl rfl rfl ?_ | refine w_end4 rfl rfl rfl rfl ?_ | refine w_end5 rfl rfl rfl rfl rfl ?_ | refine w_end6 rfl rfl rfl rfl rfl rfl ?_ | refine w_end7 rfl rfl rfl rfl rfl rfl rfl ?_ | refine w_end8 rfl rfl rfl rfl rfl rfl rfl rfl ?_ | refine w_end9 rfl rfl rfl rfl rfl rfl rfl rfl rfl ?_ | refine w_end10 rfl rfl rfl rfl rfl rfl rfl rfl rfl rfl ?_ | refine w_end11 rfl rfl rfl rfl rfl rfl rfl rfl rfl rfl rfl ?_ | refine w_end12 rfl rfl rfl rfl rfl rfl rfl rfl rfl rfl rfl rfl ?_ | refine w_end13 rfl rfl rfl rfl rfl rfl rfl rfl rfl rfl rfl rfl rfl ?_ | refine w_end14 rfl rfl rfl rfl rfl rfl rfl rfl rfl rfl rfl rfl rfl rfl ?_ | refine w_end15 rfl rfl rfl rfl rfl rfl rfl rfl rfl rfl rfl rfl rfl rfl rfl ?_ | refine w_end16 rfl rfl rfl rfl rfl rfl rfl rfl rfl rfl rfl rfl rfl rfl rfl rfl ?_)
      | ((refine i_cons ?_); first
        | refine k_ldb rfl (bA _) rfl ?_
        | refine k_ld rfl hrX ?_
        | refine k_ld rfl hrO ?_
        | refine k_ldL rfl rfl ?_
        | refine k_idxA rfl rfl (by omega) ?_
        | refine k_stL rfl rfl rfl rfl w1 ?_
        | refine k_stL rfl rfl rfl rfl w2 ?_
        | refine k_skip rfl ?_
        | refine k_skipU rfl ?_
        | refine k_want rfl ?_
        | refine k_mv rfl ?_
        | refine k_pickT rfl rfl ?_
        | refine k_pickF rfl rfl ?_
        | refine k_notT rfl ?_
        | refine k_notF rfl ?_
        | refine k_add rfl rfl (by omega) ?_
        | refine k_sub rfl rfl (by omega) ?_
        | refine k_mul rfl rfl (by omega) ?_
        | refine k_neg rfl (by omega) ?_
        | refine k_quo rfl rfl (by omega) ?_
        | refine k_rem rfl rfl (by omega) ?_
        | refine k_conv rfl (by omega) ?_
        | refine k_max rfl rfl ?_
        | refine k_min rfl rfl ?_
        | refine k_lssT rfl rfl (by omega) ?_
        | refine k_lssF rfl rfl (by omega) ?_
        | refine k_lss rfl rfl (fun hc => ?_) (fun hc => ?_)
        | refine k_leqT rfl rfl (by omega) ?_
        | refine k_leqF rfl rfl (by omega) ?_
        | refine k_leq rfl rfl (fun hc => ?_) (fun hc => ?_)
        | refine k_gtrT rfl rfl (by omega) ?_
        | refine k_gtrF rfl rfl (by omega) ?_
        | refine k_gtr rfl rfl (fun hc => ?_) (fun hc => ?_)
        | refine k_geqT rfl rfl (by omega) ?_
        | refine k_geqF rfl rfl (by omega) ?_
        | refine k_geq rfl rfl (fun hc => ?_) (fun hc => ?_)
        | refine k_eqlT rfl rfl (by omega) ?_
        | refine k_eqlF rfl rfl (by omega) ?_
        | refine k_eql rfl rfl (fun hc => ?_) (fun hc => ?_)
        | refine k_neqT rfl rfl (by omega) ?_
        | refine k_neqF rfl rfl (by omega) ?_
        | refine k_neq rfl rfl (fun hc => ?_) (fun hc => ?_)
        | refine k_len rfl rfl ?_
        | refine k_ok rfl rfl ?_))
    exact w_roundN ⟨i + 1, by omega, rfl, rfl⟩ (by simp [cnt, Env.get]; omega)
  · obtain rfl : i = n := by omega
    repeat' (first
      | refine w_seq ?_
      | refine w_seqN ?_
      | refine w_seqX ?_
      | refine w_seqR ?_
      | refine w_blk ?_
      | refine w_blkN ?_
      | refine w_blkX ?_
      | refine w_blkR ?_
      | refine w_skip ?_
      | refine w_ret ?_
      | refine w_exit ?_
      | refine w_ops ?_
      | refine w_opsD ?_
      | refine d_one ?_
      | refine d_nil ?_
      | ((refine i_cond ?_); first | refine w_condT rfl ?_ | refine w_condF rfl ?_)
      | ((refine i_nil ?_); first | refine d_same ?_ | refine d_ord ?_ | refine d_ext ⟨_, rfl⟩ ?_ | refine d_ext (extA _ _ _) ?_ | refine d_ext (by assumption) ?_ | refine w_end0 ?_ | refine w_end1 rfl ?_ | refine w_end2 rfl rfl ?_ | refine w_end3 rfl rfl rfl ?_ | refine w_end4 rfl rfl rfl rfl ?_ | refine w_end5 rfl rfl rfl rfl rfl ?_ | refine w_end6 rfl rfl rfl rfl rfl rfl ?_ | refine w_end7 rfl rfl rfl rfl rfl rfl rfl ?_ | refine w_end8 rfl rfl rfl rfl rfl rfl rfl rfl ?_ | refine w_end9 rfl rfl rfl rfl rfl rfl rfl rfl rfl ?_ | refine w_end10 rfl rfl rfl rfl rfl rfl rfl rfl rfl rfl ?_ | refine w_end11 rfl rfl rfl rfl rfl rfl rfl rfl rfl rfl rfl ?_ | refine w_end12 rfl rfl rfl rfl rfl rfl rfl rfl rfl rfl rfl rfl ?_ | refine w_end13 rfl rfl rfl rfl rfl rfl rfl rfl rfl rfl rfl rfl rfl ?_ | refine w_end14 rfl rfl rfl rfl rfl rfl rfl rfl rfl rfl rfl rfl rfl rfl ?_ | refine w_end15 rfl rfl rfl rfl rfl rfl rfl rfl rfl rfl rfl rfl rfl rfl rfl ?_ | refine w_end16 rfl rfl rfl rfl rfl rfl rfl rfl rfl rfl rfl rfl rfl rfl rfl rfl ?_)
      | ((refine i_cons ?_); first
        | refine k_skip rfl ?_
        | refine k_skipU rfl ?_
        | refine k_want rfl ?_
        | refine k_mv rfl ?_
        | refine k_pickT rfl rfl ?_
        | refine k_pickF rfl rfl ?_
        | refine k_notT rfl ?_
        | refine k_notF rfl ?_
        | refine k_add rfl rfl (by omega) ?_
        | refine k_sub rfl rfl (by omega) ?_
        | refine k_mul rfl rfl (by omega) ?_
        | refine k_neg rfl (by omega) ?_
        | refine k_quo rfl rfl (by omega) ?_
        | refine k_rem rfl rfl (by omega) ?_
        | refine k_conv rfl (by omega) ?_
        | refine k_max rfl rfl ?_
        | refine k_min rfl rfl ?_
        | refine k_lssT rfl rfl (by omega) ?_
        | refine k_lssF rfl rfl (by omega) ?_
        | refine k_lss rfl rfl (fun hc => ?_) (fun hc => ?_)
        | refine k_leqT rfl rfl (by omega) ?_
        | refine k_leqF rfl rfl (by omega) ?_
        | refine k_leq rfl rfl (fun hc => ?_) (fun hc => ?_)
        | refine k_gtrT rfl rfl (by omega) ?_
        | refine k_gtrF rfl rfl (by omega) ?_
        | refine k_gtr rfl rfl (fun hc => ?_) (fun hc => ?_)
        | refine k_geqT rfl rfl (by omega) ?_
        | refine k_geqF rfl rfl (by omega) ?_
        | refine k_geq rfl rfl (fun hc => ?_) (fun hc => ?_)
        | refine k_eqlT rfl rfl (by omega) ?_
        | refine k_eqlF rfl rfl (by omega) ?_
        | refine k_eql rfl rfl (fun hc => ?_) (fun hc => ?_)
        | refine k_neqT rfl rfl (by omega) ?_
        | refine k_neqF rfl rfl (by omega) ?_
        | refine k_neq rfl rfl (fun hc => ?_) (fun hc => ?_)
        | refine k_len rfl rfl ?_
        | refine k_ok rfl rfl ?_))
    exact w_roundX ⟨rfl, rfl, _, _, _, _, rfl⟩
set_option maxHeartbeats 1000000 in
theorem round27 (B : Heap) (p q : Nat) (X O : SV) (n : Nat) (g : Gr) (hb : Blk.At B p [X, O]) (hg : IsG B X O g) (hv : Vd n g) (hn : n ≤ 1000) (E : Env) (h : Heap) (hI : I27 B p q n g E h) :
    wA FT HK b27L0 (E.keep [1, 2, 3, 4, 5]) h (wRound (I27 B p q n g) (cnt n 5) (cnt n 5 E h) (R27 B p q n g)) := by
  obtain ⟨i, hi, rfl, rfl⟩ := hI
  by_cases hlt : i < n
  · have bx := f21_lt hv.p1 hlt
    have bo := f21_lt hv.p2 hlt
    have ix := hv.p1.in hlt
    have io := hv.p2.in hlt
    unfold In01 at ix io
    have e1 := hv.p1.len
    have e2 := hv.p2.len
    have bA : ∀ L, Blk.At (B ++ L) p [X, O] := fun L => hb.ext ⟨L, rfl⟩
    obtain ⟨iX, oX, cX, rfl, hrX⟩ := IsInts.at (hg.app (L21 B n (S21 n g.2 i) (S21 n g.1 i))).x (atN_get (xs := g.1) (k := i) (by omega))
    obtain ⟨iO, oO, cO, rfl, hrO⟩ := IsInts.at (hg.app (L21 B n (S21 n g.2 i) (S21 n g.1 (i + 1)))).o (atN_get (xs := g.2) (k := i) (by omega))
    have w1 : writeN (L21 B n (S21 n g.2 i) (S21 n g.1 i)) 1 (0 + ((n : Int) - 1 - atN g.1 i).toNat * 1) [.int .i64 (i : Int)] = some (L21 B n (S21 n g.2 i) (S21 n g.1 (i + 1))) :=
      wrI (L := L21 _ _ _ _) rfl (Nat.lt_of_lt_of_eq bx.1 (S21_len _ _ _).symm) _
    have w2 : writeN (L21 B n (S21 n g.2 i) (S21 n g.1 (i + 1))) 0 (0 + ((n : Int) - 1 - atN g.2 i).toNat * 1) [.int .i64 (i : Int)] = some (L21 B n (S21 n g.2 (i + 1)) (S21 n g.1 (i + 1))) :=
      wrI (L := L21 _ _ _ _) rfl (Nat.lt_of_lt_of_eq bo.1 (S21_len _ _ _).symm) _
    repeat' (first
      | refine w_seq ?_
      | refine w_seqN ?_
      | refine w_seqX ?_
      | refine w_seqR ?_
      | refine w_blk ?_
      | refine w_blkN ?_
      | refine w_blkX ?_
      | refine w_blkR ?_
      | refine w_skip ?_
      | refine w_ret ?_
      | refine w_exit ?_
      | refine w_ops ?_
      | refine w_opsD ?_
      | refine d_one ?_
      | refine d_nil ?_
      | ((refine i_cond ?_); first | refine w_condT rfl ?_ | refine w_condF rfl ?_)
      | ((refine i_nil ?_); first | refine d_same ?_ | refine d_ord ?_ | refine d_ext ⟨_, rfl⟩ ?_ | refine d_ext (extA _ _ _) ?_ | refine d_ext (by assumption) ?_ | refine w_end0 ?_ | refine w_end1 rfl ?_ | refine w_end2 rfl rfl ?_ | refine w_end3 rfl rfl rfl ?_ | refine w_end4 rfl rfl rfl rfl ?_ | refine w_end5 rfl rfl rfl rfl rfl ?_ | refine w_end6 rfl rfl rfl rfl rfl rfl ?_ | refine w_end7 rfl rfl rfl rfl rfl rfl rfl ?_ | refine w_end8 rfl rfl rfl rfl rfl rfl rfl rfl ?_ | refine w_end9 rfl rfl rfl rfl rfl rfl rfl rfl rfl ?_ | refine w_end10 rfl rfl rfl rfl rfl rfl rfl rfl rfl rfl ?_ | refine w_end11 rfl rfl rfl rfl rfl rfl rfl rfl rfl rfl rfl ?_ | refine w_end12 rfl rfl rfl rfl rfl rfl rfl rfl rfl rfl rfl rfl ?_ | refine w_end13 rfl rfl rfl rfl rfl rfl rfl rfl rfl rfl rfl rfl rfl ?_ | refine w_end14 rfl rfl rfl rfl rfl rfl rfl rfl rfl rfl rfl rfl rfl rfl ?_ | refine w_end15 rfl rfl rfl rfl rfl rfl rfl rfl rfl rfl rfl rfl rfl rfl rfl ?_ | refine w_end16 rfl rfl rfl rfl rfl rfl rfl rfl rfl rfl rfl rfl rfl rfl rfl rfl ?_)
      | ((refine i_cons ?_); first
        | refine k_ldb rfl (bA _) rfl ?_
        | refine k_ld rfl hrX ?_
        | refine k_ld rfl hrO ?_
        | refine k_ldL rfl rfl ?_
        | refine k_idxA rfl rfl (by omega) ?_
        | refine k_stL rfl rfl rfl rfl w1 ?_
        | refine k_stL rfl rfl rfl rfl w2 ?_
        | refine k_skip rfl ?_
        | refine k_skipU rfl ?_
        | refine k_want rfl ?_
        | refine k_mv rfl ?_
        | refine k_pickT rfl rfl ?_
        | refine k_pickF rfl rfl ?_
        | refine k_notT rfl ?_
        | refine k_notF rfl ?_
        | refine k_add rfl rfl (by omega) ?_
        | refine k_sub rfl rfl (by omega) ?_
        | refine k_mul rfl rfl (by omega) ?_
        | refine k_neg rfl (by omega) ?_
        | refine k_quo rfl rfl (by omega) ?_
        | refine k_rem rfl rfl (by omega) ?_
        | refine k_conv rfl (by omega) ?_
        | refine k_max rfl rfl ?_
        | refine k_min rfl rfl ?_
        | refine k_lssT rfl rfl (by omega) ?_
        | refine k_lssF rfl rfl (by omega) ?_
        | refine k_lss rfl rfl (fun hc => ?_) (fun hc => ?_)
        | refine k_leqT rfl rfl (by omega) ?_
        | refine k_leqF rfl rfl (by omega) ?_
        | refine k_leq rfl rfl (fun hc => ?_) (fun hc => ?_)
        | refine k_gtrT rfl rfl (by omega) ?_
        | refine k_gtrF rfl rfl (by omega) ?_
        | refine k_gtr rfl rfl (fun hc => ?_) (fun hc => ?_)
        | refine k_geqT rfl rfl (by omega) ?_
        | refine k_geqF rfl rfl (by omega) ?_
        | refine k_geq rfl rfl (fun hc => ?_) (fun hc => ?_)
        | refine k_eqlT rfl rfl (by omega) ?_
        | refine k_eqlF rfl rfl (by omega) ?_
        | refine k_eql rfl rfl (fun hc => ?_) (fun hc => ?_)
        | refine k_neqT rfl rfl (by omega) ?_
        | refine k_neqF rfl rfl (by omega) ?_
        | refine k_neq rfl rfl (fun hc => ?_) (fun hc => ?_)
        | refine k_len rfl rfl ?_
        | refine k_ok rfl rfl ?_))
    exact w_roundN ⟨i + 1, by omega, rfl, rfl⟩ (by simp [cnt, Env.get]; omega)
  · obtain rfl : i = n := by omega
    repeat' (first
      | refine w_seq ?_
      | refine w_seqN ?_
      | refine w_seqX ?_
      | refine w_seqR ?_
      | refine w_blk ?_
      | refine w_blkN ?_
      | refine w_blkX ?_
      | refine w_blkR ?_
      | refine w_skip ?_
      | refine w_ret ?_
      | refine w_exit ?_
      | refine w_ops ?_
      | refine w_opsD ?_
      | refine d_one ?_
      | refine d_nil ?_
      | ((refine i_cond ?_); first | refine w_condT rfl ?_ | refine w_condF rfl ?_)
      | ((refine i_nil ?_); first | refine d_same ?_ | refine d_ord ?_ | refine d_ext ⟨_, rfl⟩ ?_ | refine d_ext (extA _ _ _) ?_ | refine d_ext (by assumption) ?_ | refine w_end0 ?_ | refine w_end1 rfl ?_ | refine w_end2 rfl rfl ?_ | refine w_end3 rfl rfl rfl ?_ | refine w_end4 rfl rfl rfl rfl ?_ | refine w_end5 rfl rfl rfl rfl rfl ?_ | refine w_end6 rfl rfl rfl rfl rfl rfl ?_ | refine w_end7 rfl rfl rfl rfl rfl rfl rfl ?_ | refine w_end8 rfl rfl rfl rfl rfl rfl rfl rfl ?_ | refine w_end9 rfl rfl rfl rfl rfl rfl rfl rfl rfl ?_ | refine w_end10 rfl rfl rfl rfl rfl rfl rfl rfl rfl rfl ?_ | refine w_end11 rfl rfl rfl rfl rfl rfl rfl rfl rfl rfl rfl ?_ | refine w_end12 rfl rfl rfl rfl rfl rfl rfl rfl rfl rfl rfl rfl ?_ | refine w_end13 rfl rfl rfl rfl rfl rfl rfl rfl rfl rfl rfl rfl rfl ?_ | refine w_end14 rfl rfl rfl rfl rfl rfl rfl rfl rfl rfl rfl rfl rfl rfl ?_ | refine w_end15 rfl rfl rfl rfl rfl rfl rfl rfl rfl rfl rfl rfl rfl rfl rfl ?_ | refine w_end16 rfl rfl rfl rfl rfl rfl rfl rfl rfl rfl rfl rfl rfl rfl rfl rfl ?_)
      | ((refine i_cons ?_); first
        | refine k_skip rfl ?_
        | refine k_skipU rfl ?_
        | refine k_want rfl ?_
        | refine k_mv rfl ?_
        | refine k_pickT rfl rfl ?_
        | refine k_pickF rfl rfl ?_
        | refine k_notT rfl ?_
        | refine k_notF rfl ?_
        | refine k_add rfl rfl (by omega) ?_
        | refine k_sub rfl rfl (by omega) ?_
        | refine k_mul rfl rfl (by omega) ?_
        | refine k_neg rfl (by omega) ?_
        | refine k_quo rfl rfl (by omega) ?_
        | refine k_rem rfl rfl (by omega) ?_
        | refine k_conv rfl (by omega) ?_
        | refine k_max rfl rfl ?_
        | refine k_min rfl rfl ?_
        | refine k_lssT rfl rfl (by omega) ?_
        | refine k_lssF rfl rfl (by omega) ?_
        | refine k_lss rfl rfl (fun hc => ?_) (fun hc => ?_)
        | refine k_leqT rfl rfl (by omega) ?_
        | refine k_leqF rfl rfl (by omega) ?_
        | refine k_leq rfl rfl (fun hc => ?_) (fun hc => ?_)
        | refine k_gtrT rfl rfl (by omega) ?_
        | refine k_gtrF rfl rfl (by omega) ?_
        | refine k_gtr rfl rfl (fun hc => ?_) (fun hc => ?_)
        | refine k_geqT rfl rfl (by omega) ?_
        | refine k_geqF rfl rfl (by omega) ?_
        | refine k_geq rfl rfl (fun hc => ?_) (fun hc => ?_)
        | refine k_eqlT rfl rfl (by omega) ?_
        | refine k_eqlF rfl rfl (by omega) ?_
        | refine k_eql rfl rfl (fun hc => ?_) (fun hc => ?_)
        | refine k_neqT rfl rfl (by omega) ?_
        | refine k_neqF rfl rfl (by omega) ?_
        | refine k_neq rfl rfl (fun hc => ?_) (fun hc => ?_)
        | refine k_len rfl rfl ?_
        | refine k_ok rfl rfl ?_))
    exact w_roundX ⟨rfl, rfl, _, _, _, rfl⟩

theorem rot_end {B B' : Heap} {n : Nat} {g : Gr} (hv : Vd n g) (hl : B'.length = B.length) : IsG (B' ++ L21 B n (S21 n g.2 n) (S21 n g.1 n)) (.slc (B.length + 0) 0 n (some n)) (.slc (B.length + 1) 0 n (some n)) (rotG g) := by
  rw [S21_end hv.p1, S21_end hv.p2, ← hl]
  exact ⟨own_tail rfl (by show (turnL g.2).length = n; rw [turnL_len, hv.p2.len]), own_tail rfl (by show (turnL g.1).length = n; rw [turnL_len, hv.p1.len])⟩

set_option maxHeartbeats 1000000 in
theorem call21 (hk : HK 21 = none) (hk1 : HK 13 = none) (hk2 : HK 34 = none) (h0 : Heap) (X O : SV) (g : Gr) (hg : IsG h0 X O g) (hv : VG g.1 g.2) :
    ∃ v h', Cal FT HK 21 [.agg [X, O]] h0 v h' ∧ Ext h0 h' ∧ ∃ X' O', v = .tup [.agg [X', O'], .sc (.int .i64 0)] ∧ IsG h' X' O' (rotG g) := by
  refine Cal.of (F := a21) hk rfl rfl ?_
  have hV := (vg_iff g).1 hv
  have hl1 := IsSl.len hg.x
  have n2 := hV.two
  have n40 := hV.few
  generalize hn : g.1.length = n at *
  have hbd : n * (8 + 1) ≤ bigN := by simp [bigN]; omega
  have k1 := valid13 (HK := HK) hk1 hk2 (h0 ++ [.cells [X, O] true 0, .cells [.nilS, .nilS] true 0]) X O g (hg.app _)
  rw [decide_eq_true hv] at k1
  repeat' (first
    | refine w_seq ?_
    | refine w_seqN ?_
    | refine w_seqX ?_
    | refine w_seqR ?_
    | refine w_blk ?_
    | refine w_blkN ?_
    | refine w_blkX ?_
    | refine w_blkR ?_
    | refine w_skip ?_
    | refine w_ret ?_
    | refine w_exit ?_
    | refine w_ops ?_
    | refine w_opsD ?_
    | refine d_one ?_
    | refine d_nil ?_
    | ((refine i_cond ?_); first | refine w_condT rfl ?_ | refine w_condF rfl ?_)
    | ((refine i_nil ?_); first | refine d_same ?_ | refine d_ord ?_ | refine d_ext ⟨_, rfl⟩ ?_ | refine d_ext (extA _ _ _) ?_ | refine d_ext (by assumption) ?_ | refine w_end0 ?_ | refine w_end1 rfl ?_ | refine w_end2 rfl rfl ?_ | refine w_end3 rfl rfl rfl ?_ | refine w_end4 rfl rfl rfl rfl ?_ | refine w_end5 rfl rfl rfl rfl rfl ?_ | refine w_end6 rfl rfl rfl rfl rfl rfl ?_ | refine w_end7 rfl rfl rfl rfl rfl rfl rfl ?_ | refine w_end8 rfl rfl rfl rfl rfl rfl rfl rfl ?_ | refine w_end9 rfl rfl rfl rfl rfl rfl rfl rfl rfl ?_ | refine w_end10 rfl rfl rfl rfl rfl rfl rfl rfl rfl rfl ?_ | refine w_end11 rfl rfl rfl rfl rfl rfl rfl rfl rfl rfl rfl ?_ | refine w_end12 rfl rfl rfl rfl rfl rfl rfl rfl rfl rfl rfl rfl ?_ | refine w_end13 rfl rfl rfl rfl rfl rfl rfl rfl rfl rfl rfl rfl rfl ?_ | refine w_end14 rfl rfl rfl rfl rfl rfl rfl rfl rfl rfl rfl rfl rfl rfl ?_ | refine w_end15 rfl rfl rfl rfl rfl rfl rfl rfl rfl rfl rfl rfl rfl rfl rfl ?_ | refine w_end16 rfl rfl rfl rfl rfl rfl rfl rfl rfl rfl rfl rfl rfl rfl rfl rfl ?_)
    | ((refine i_cons ?_); first
      | refine k_box0 rfl rfl ?_
      | refine k_newL ?_
      | refine k_ldAL rfl rfl ?_
      | (refine k_call rfl k1 ?_; rintro v h1 ⟨he, rfl⟩; obtain ⟨T, rfl⟩ := extL he)
      | refine k_skip rfl ?_
      | refine k_skipU rfl ?_
      | refine k_want rfl ?_
      | refine k_mv rfl ?_
      | refine k_pickT rfl rfl ?_
      | refine k_pickF rfl rfl ?_
      | refine k_notT rfl ?_
      | refine k_notF rfl ?_
      | refine k_add rfl rfl (by omega) ?_
      | refine k_sub rfl rfl (by omega) ?_
      | refine k_mul rfl rfl (by omega) ?_
      | refine k_neg rfl (by omega) ?_
      | refine k_quo rfl rfl (by omega) ?_
      | refine k_rem rfl rfl (by omega) ?_
      | refine k_conv rfl (by omega) ?_
      | refine k_max rfl rfl ?_
      | refine k_min rfl rfl ?_
      | refine k_lssT rfl rfl (by omega) ?_
      | refine k_lssF rfl rfl (by omega) ?_
      | refine k_lss rfl rfl (fun hc => ?_) (fun hc => ?_)
      | refine k_leqT rfl rfl (by omega) ?_
      | refine k_leqF rfl rfl (by omega) ?_
      | refine k_leq rfl rfl (fun hc => ?_) (fun hc => ?_)
      | refine k_gtrT rfl rfl (by omega) ?_
      | refine k_gtrF rfl rfl (by omega) ?_
      | refine k_gtr rfl rfl (fun hc => ?_) (fun hc => ?_)
      | refine k_geqT rfl rfl (by omega) ?_
      | refine k_geqF rfl rfl (by omega) ?_
      | refine k_geq rfl rfl (fun hc => ?_) (fun hc => ?_)
      | refine k_eqlT rfl rfl (by omega) ?_
      | refine k_eqlF rfl rfl (by omega) ?_
      | refine k_eql rfl rfl (fun hc => ?_) (fun hc => ?_)
      | refine k_neqT rfl rfl (by omega) ?_
      | refine k_neqF rfl rfl (by omega) ?_
      | refine k_neq rfl rfl (fun hc => ?_) (fun hc => ?_)
      | refine k_len rfl rfl ?_
      | refine k_ok rfl rfl ?_))
  have bA : Blk.At (h0 ++ ([.cells [X, O] true 0, .cells [.nilS, .nilS] true 0] ++ T)) (h0.length + 0) [X, O] := ⟨true, 0, by rw [get_app]; rfl⟩
  have hq : Cellq h0 (h0 ++ ([.cells [X, O] true 0, .cells [.nilS, .nilS] true 0] ++ T)) (h0.length + 1) := Cellq.of (z := 0) rfl
  have hG : IsG (h0 ++ ([.cells [X, O] true 0, .cells [.nilS, .nilS] true 0] ++ T)) X O g := hg.app _
  generalize h0 ++ ([Blk.cells [X, O] true 0, .cells [.nilS, .nilS] true 0] ++ T) = B at *
  repeat' (first
    | refine w_seq ?_
    | refine w_seqN ?_
    | refine w_seqX ?_
    | refine w_seqR ?_
    | refine w_blk ?_
    | refine w_blkN ?_
    | refine w_blkX ?_
    | refine w_blkR ?_
    | refine w_skip ?_
    | refine w_ret ?_
    | refine w_exit ?_
    | refine w_ops ?_
    | refine w_opsD ?_
    | refine d_one ?_
    | refine d_nil ?_
    | ((refine i_cond ?_); first | refine w_condT rfl ?_ | refine w_condF rfl ?_)
    | ((refine i_nil ?_); first | refine d_same ?_ | refine d_ord ?_ | refine d_ext ⟨_, rfl⟩ ?_ | refine d_ext (extA _ _ _) ?_ | refine d_ext (by assumption) ?_ | refine w_end0 ?_ | refine w_end1 rfl ?_ | refine w_end2 rfl rfl ?_ | refine w_end3 rfl rfl rfl ?_ | refine w_end4 rfl rfl rfl rfl ?_ | refine w_end5 rfl rfl rfl rfl rfl ?_ | refine w_end6 rfl rfl rfl rfl rfl rfl ?_ | refine w_end7 rfl rfl rfl rfl rfl rfl rfl ?_ | refine w_end8 rfl rfl rfl rfl rfl rfl rfl rfl ?_ | refine w_end9 rfl rfl rfl rfl rfl rfl rfl rfl rfl ?_ | refine w_end10 rfl rfl rfl rfl rfl rfl rfl rfl rfl rfl ?_ | refine w_end11 rfl rfl rfl rfl rfl rfl rfl rfl rfl rfl rfl ?_ | refine w_end12 rfl rfl rfl rfl rfl rfl rfl rfl rfl rfl rfl rfl ?_ | refine w_end13 rfl rfl rfl rfl rfl rfl rfl rfl rfl rfl rfl rfl rfl ?_ | refine w_end14 rfl rfl rfl rfl rfl rfl rfl rfl rfl rfl rfl rfl rfl rfl ?_ | refine w_end15 rfl rfl rfl rfl rfl rfl rfl rfl rfl rfl rfl rfl rfl rfl rfl ?_ | refine w_end16 rfl rfl rfl rfl rfl rfl rfl rfl rfl rfl rfl rfl rfl rfl rfl rfl ?_)
    | ((refine i_cons ?_); first
      | refine k_ldb rfl bA rfl ?_
      | refine k_len rfl hl1 ?_
      | refine k_mkL rfl rfl hbd ?_
      | refine k_mk0 rfl rfl hbd ?_
      | refine k_bld rfl rfl ?_
      | refine k_newL ?_
      | refine k_stL rfl rfl rfl rfl rfl ?_
      | refine k_skip rfl ?_
      | refine k_skipU rfl ?_
      | refine k_want rfl ?_
      | refine k_mv rfl ?_
      | refine k_pickT rfl rfl ?_
      | refine k_pickF rfl rfl ?_
      | refine k_notT rfl ?_
      | refine k_notF rfl ?_
      | refine k_add rfl rfl (by omega) ?_
      | refine k_sub rfl rfl (by omega) ?_
      | refine k_mul rfl rfl (by omega) ?_
      | refine k_neg rfl (by omega) ?_
      | refine k_quo rfl rfl (by omega) ?_
      | refine k_rem rfl rfl (by omega) ?_
      | refine k_conv rfl (by omega) ?_
      | refine k_max rfl rfl ?_
      | refine k_min rfl rfl ?_
      | refine k_lssT rfl rfl (by omega) ?_
      | refine k_lssF rfl rfl (by omega) ?_
      | refine k_lss rfl rfl (fun hc => ?_) (fun hc => ?_)
      | refine k_leqT rfl rfl (by omega) ?_
      | refine k_leqF rfl rfl (by omega) ?_
      | refine k_leq rfl rfl (fun hc => ?_) (fun hc => ?_)
      | refine k_gtrT rfl rfl (by omega) ?_
      | refine k_gtrF rfl rfl (by omega) ?_
      | refine k_gtr rfl rfl (fun hc => ?_) (fun hc => ?_)
      | refine k_geqT rfl rfl (by omega) ?_
      | refine k_geqF rfl rfl (by omega) ?_
      | refine k_geq rfl rfl (fun hc => ?_) (fun hc => ?_)
      | refine k_eqlT rfl rfl (by omega) ?_
      | refine k_eqlF rfl rfl (by omega) ?_
      | refine k_eql rfl rfl (fun hc => ?_) (fun hc => ?_)
      | refine k_neqT rfl rfl (by omega) ?_
      | refine k_neqF rfl rfl (by omega) ?_
      | refine k_neq rfl rfl (fun hc => ?_) (fun hc => ?_)
      | refine k_len rfl rfl ?_
      | refine k_ok rfl rfl ?_))
  refine w_loop (I21 B (h0.length + 0) (h0.length + 1) n g) (cnt n 20) (R21 B (h0.length + 0) (h0.length + 1) n g) ⟨0, Nat.zero_le _, by simp [L21, S21, scat, ints, splice], rfl⟩ (round21 B _ _ X O n g bA hG hV.vd (by omega)) ?_
  rintro ex E' h' ⟨rfl, rfl, _, _, _, _, rfl⟩
  obtain ⟨B', q1, q2, q3, q4⟩ := hq (.slc (B.length + 0) 0 n (some n)) (.slc (B.length + 1) 0 n (some n))
  repeat' (first
    | refine w_seq ?_
    | refine w_seqN ?_
    | refine w_seqX ?_
    | refine w_seqR ?_
    | refine w_blk ?_
    | refine w_blkN ?_
    | refine w_blkX ?_
    | refine w_blkR ?_
    | refine w_skip ?_
    | refine w_ret ?_
    | refine w_exit ?_
    | refine w_ops ?_
    | refine w_opsD ?_
    | refine d_one ?_
    | refine d_nil ?_
    | ((refine i_cond ?_); first | refine w_condT rfl ?_ | refine w_condF rfl ?_)
    | ((refine i_nil ?_); first | refine d_same ?_ | refine d_ord ?_ | refine d_ext ⟨_, rfl⟩ ?_ | refine d_ext (extA _ _ _) ?_ | refine d_ext (by assumption) ?_ | refine w_end0 ?_ | refine w_end1 rfl ?_ | refine w_end2 rfl rfl ?_ | refine w_end3 rfl rfl rfl ?_ | refine w_end4 rfl rfl rfl rfl ?_ | refine w_end5 rfl rfl rfl rfl rfl ?_ | refine w_end6 rfl rfl rfl rfl rfl rfl ?_ | refine w_end7 rfl rfl rfl rfl rfl rfl rfl ?_ | refine w_end8 rfl rfl rfl rfl rfl rfl rfl rfl ?_ | refine w_end9 rfl rfl rfl rfl rfl rfl rfl rfl rfl ?_ | refine w_end10 rfl rfl rfl rfl rfl rfl rfl rfl rfl rfl ?_ | refine w_end11 rfl rfl rfl rfl rfl rfl rfl rfl rfl rfl rfl ?_ | refine w_end12 rfl rfl rfl rfl rfl rfl rfl rfl rfl rfl rfl rfl ?_ | refine w_end13 rfl rfl rfl rfl rfl rfl rfl rfl rfl rfl rfl rfl rfl ?_ | refine w_end14 rfl rfl rfl rfl rfl rfl rfl rfl rfl rfl rfl rfl rfl rfl ?_ | refine w_end15 rfl rfl rfl rfl rfl rfl rfl rfl rfl rfl rfl rfl rfl rfl rfl ?_ | refine w_end16 rfl rfl rfl rfl rfl rfl rfl rfl rfl rfl rfl rfl rfl rfl rfl rfl ?_)
    | ((refine i_cons ?_); first
      | refine k_ldAL rfl rfl ?_
      | refine k_stB rfl rfl rfl rfl q1 ?_
      | refine k_skip rfl ?_
      | refine k_skipU rfl ?_
      | refine k_want rfl ?_
      | refine k_mv rfl ?_
      | refine k_pickT rfl rfl ?_
      | refine k_pickF rfl rfl ?_
      | refine k_notT rfl ?_
      | refine k_notF rfl ?_
      | refine k_add rfl rfl (by omega) ?_
      | refine k_sub rfl rfl (by omega) ?_
      | refine k_mul rfl rfl (by omega) ?_
      | refine k_neg rfl (by omega) ?_
      | refine k_quo rfl rfl (by omega) ?_
      | refine k_rem rfl rfl (by omega) ?_
      | refine k_conv rfl (by omega) ?_
      | refine k_max rfl rfl ?_
      | refine k_min rfl rfl ?_
      | refine k_lssT rfl rfl (by omega) ?_
      | refine k_lssF rfl rfl (by omega) ?_
      | refine k_lss rfl rfl (fun hc => ?_) (fun hc => ?_)
      | refine k_leqT rfl rfl (by omega) ?_
      | refine k_leqF rfl rfl (by omega) ?_
      | refine k_leq rfl rfl (fun hc => ?_) (fun hc => ?_)
      | refine k_gtrT rfl rfl (by omega) ?_
      | refine k_gtrF rfl rfl (by omega) ?_
      | refine k_gtr rfl rfl (fun hc => ?_) (fun hc => ?_)
      | refine k_geqT rfl rfl (by omega) ?_
      | refine k_geqF rfl rfl (by omega) ?_
      | refine k_geq rfl rfl (fun hc => ?_) (fun hc => ?_)
      | refine k_eqlT rfl rfl (by omega) ?_
      | refine k_eqlF rfl rfl (by omega) ?_
      | refine k_eql rfl rfl (fun hc => ?_) (fun hc => ?_)
      | refine k_neqT rfl rfl (by omega) ?_
      | refine k_neqF rfl rfl (by omega) ?_
      | refine k_neq rfl rfl (fun hc => ?_) (fun hc => ?_)
      | refine k_len rfl rfl ?_
      | refine k_ok rfl rfl ?_))
  exact ⟨.inr rfl, oK_cellt rfl (readN_app _ q3) rfl ⟨q4.app _, _, _, rfl, rot_end hV.vd q2⟩⟩
set_option maxHeartbeats 1000000 in
theorem call21e (hk : HK 21 = none) (hk1 : HK 13 = none) (hk2 : HK 34 = none) (h0 : Heap) (X O : SV) (g : Gr) (hg : IsG h0 X O g) (hv : ¬ VG g.1 g.2) :
    ∃ v h', Cal FT HK 21 [.agg [X, O]] h0 v h' ∧ Ext h0 h' ∧ v = .tup [.agg [.nilS, .nilS], .sc (.int .i64 1)] := by
  refine Cal.of (F := a21) hk rfl rfl ?_
  have k1 := valid13 (HK := HK) hk1 hk2 (h0 ++ [.cells [X, O] true 0, .cells [.nilS, .nilS] true 0]) X O g (hg.app _)
  rw [decide_eq_false hv] at k1
  repeat' (first
    | refine w_seq ?_
    | refine w_seqN ?_
    | refine w_seqX ?_
    | refine w_seqR ?_
    | refine w_blk ?_
    | refine w_blkN ?_
    | refine w_blkX ?_
    | refine w_blkR ?_
    | refine w_skip ?_
    | refine w_ret ?_
    | refine w_exit ?_
    | refine w_ops ?_
    | refine w_opsD ?_
    | refine d_one ?_
    | refine d_nil ?_
    | ((refine i_cond ?_); first | refine w_condT rfl ?_ | refine w_condF rfl ?_)
    | ((refine i_nil ?_); first | refine d_same ?_ | refine d_ord ?_ | refine d_ext ⟨_, rfl⟩ ?_ | refine d_ext (extA _ _ _) ?_ | refine d_ext (by assumption) ?_ | refine w_end0 ?_ | refine w_end1 rfl ?_ | refine w_end2 rfl rfl ?_ | refine w_end3 rfl rfl rfl ?_ | refine w_end4 rfl rfl rfl rfl ?_ | refine w_end5 rfl rfl rfl rfl rfl ?_ | refine w_end6 rfl rfl rfl rfl rfl rfl ?_ | refine w_end7 rfl rfl rfl rfl rfl rfl rfl ?_ | refine w_end8 rfl rfl rfl rfl rfl rfl rfl rfl ?_ | refine w_end9 rfl rfl rfl rfl rfl rfl rfl rfl rfl ?_ | refine w_end10 rfl rfl rfl rfl rfl rfl rfl rfl rfl rfl ?_ | refine w_end11 rfl rfl rfl rfl rfl rfl rfl rfl rfl rfl rfl ?_ | refine w_end12 rfl rfl rfl rfl rfl rfl rfl rfl rfl rfl rfl rfl ?_ | refine w_end13 rfl rfl rfl rfl rfl rfl rfl rfl rfl rfl rfl rfl rfl ?_ | refine w_end14 rfl rfl rfl rfl rfl rfl rfl rfl rfl rfl rfl rfl rfl rfl ?_ | refine w_end15 rfl rfl rfl rfl rfl rfl rfl rfl rfl rfl rfl rfl rfl rfl rfl ?_ | refine w_end16 rfl rfl rfl rfl rfl rfl rfl rfl rfl rfl rfl rfl rfl rfl rfl rfl ?_)
    | ((refine i_cons ?_); first
      | refine k_box0 rfl rfl ?_
      | refine k_newL ?_
      | refine k_ldAL rfl rfl ?_
      | (refine k_call rfl k1 ?_; rintro v h1 ⟨he, rfl⟩; obtain ⟨T, rfl⟩ := extL he)
      | refine k_bld rfl rfl ?_
      | refine k_stL rfl rfl rfl rfl rfl ?_
      | refine k_skip rfl ?_
      | refine k_skipU rfl ?_
      | refine k_want rfl ?_
      | refine k_mv rfl ?_
      | refine k_pickT rfl rfl ?_
      | refine k_pickF rfl rfl ?_
      | refine k_notT rfl ?_
      | refine k_notF rfl ?_
      | refine k_add rfl rfl (by omega) ?_
      | refine k_sub rfl rfl (by omega) ?_
      | refine k_mul rfl rfl (by omega) ?_
      | refine k_neg rfl (by omega) ?_
      | refine k_quo rfl rfl (by omega) ?_
      | refine k_rem rfl rfl (by omega) ?_
      | refine k_conv rfl (by omega) ?_
      | refine k_max rfl rfl ?_
      | refine k_min rfl rfl ?_
      | refine k_lssT rfl rfl (by omega) ?_
      | refine k_lssF rfl rfl (by omega) ?_
      | refine k_lss rfl rfl (fun hc => ?_) (fun hc => ?_)
      | refine k_leqT rfl rfl (by omega) ?_
      | refine k_leqF rfl rfl (by omega) ?_
      | refine k_leq rfl rfl (fun hc => ?_) (fun hc => ?_)
      | refine k_gtrT rfl rfl (by omega) ?_
      | refine k_gtrF rfl rfl (by omega) ?_
      | refine k_gtr rfl rfl (fun hc => ?_) (fun hc => ?_)
      | refine k_geqT rfl rfl (by omega) ?_
      | refine k_geqF rfl rfl (by omega) ?_
      | refine k_geq rfl rfl (fun hc => ?_) (fun hc => ?_)
      | refine k_eqlT rfl rfl (by omega) ?_
      | refine k_eqlF rfl rfl (by omega) ?_
      | refine k_eql rfl rfl (fun hc => ?_) (fun hc => ?_)
      | refine k_neqT rfl rfl (by omega) ?_
      | refine k_neqF rfl rfl (by omega) ?_
      | refine k_neq rfl rfl (fun hc => ?_) (fun hc => ?_)
      | refine k_len rfl rfl ?_
      | refine k_ok rfl rfl ?_))
  exact ⟨.inr rfl, oK_cellt rfl (by rw [rdA]; rfl) rfl ⟨⟨_, rfl⟩, rfl⟩⟩
set_option maxHeartbeats 1000000 in
theorem call27 (hk : HK 27 = none) (h0 : Heap) (X O : SV) (g : Gr) (hg : IsG h0 X O g) (hV : Vg g.1.length g) :
    ∃ v h', Cal FT HK 27 [.agg [X, O]] h0 v h' ∧ Ext h0 h' ∧ ∃ X' O', v = .agg [X', O'] ∧ IsG h' X' O' (rotG g) := by
  refine Cal.of (F := a27) hk rfl rfl ?_
  have hl1 := IsSl.len hg.x
  have n2 := hV.two
  have n40 := hV.few
  generalize hn : g.1.length = n at *
  have hbd : n * (8 + 1) ≤ bigN := by simp [bigN]; omega
  repeat' (first
    | refine w_seq ?_
    | refine w_seqN ?_
    | refine w_seqX ?_
    | refine w_seqR ?_
    | refine w_blk ?_
    | refine w_blkN ?_
    | refine w_blkX ?_
    | refine w_blkR ?_
    | refine w_skip ?_
    | refine w_ret ?_
    | refine w_exit ?_
    | refine w_ops ?_
    | refine w_opsD ?_
    | refine d_one ?_
    | refine d_nil ?_
    | ((refine i_cond ?_); first | refine w_condT rfl ?_ | refine w_condF rfl ?_)
    | ((refine i_nil ?_); first | refine d_same ?_ | refine d_ord ?_ | refine d_ext ⟨_, rfl⟩ ?_ | refine d_ext (extA _ _ _) ?_ | refine d_ext (by assumption) ?_ | refine w_end0 ?_ | refine w_end1 rfl ?_ | refine w_end2 rfl rfl ?_ | refine w_end3 rfl rfl rfl ?_ | refine w_end4 rfl rfl rfl rfl ?_ | refine w_end5 rfl rfl rfl rfl rfl ?_ | refine w_end6 rfl rfl rfl rfl rfl rfl ?_ | refine w_end7 rfl rfl rfl rfl rfl rfl rfl ?_ | refine w_end8 rfl rfl rfl rfl rfl rfl rfl rfl ?_ | refine w_end9 rfl rfl rfl rfl rfl rfl rfl rfl rfl ?_ | refine w_end10 rfl rfl rfl rfl rfl rfl rfl rfl rfl rfl ?_ | refine w_end11 rfl rfl rfl rfl rfl rfl rfl rfl rfl rfl rfl ?_ | refine w_end12 rfl rfl rfl rfl rfl rfl rfl rfl rfl rfl rfl rfl ?_ | refine w_end13 rfl rfl rfl rfl rfl rfl rfl rfl rfl rfl rfl rfl rfl ?_ | refine w_end14 rfl rfl rfl rfl rfl rfl rfl rfl rfl rfl rfl rfl rfl rfl ?_ | refine w_end15 rfl rfl rfl rfl rfl rfl rfl rfl rfl rfl rfl rfl rfl rfl rfl ?_ | refine w_end16 rfl rfl rfl rfl rfl rfl rfl rfl rfl rfl rfl rfl rfl rfl rfl rfl ?_)
    | ((refine i_cons ?_); first
      | refine k_box0 rfl rfl ?_
      | refine k_newL ?_
      | refine k_skip rfl ?_
      | refine k_skipU rfl ?_
      | refine k_want rfl ?_
      | refine k_mv rfl ?_
      | refine k_pickT rfl rfl ?_
      | refine k_pickF rfl rfl ?_
      | refine k_notT rfl ?_
      | refine k_notF rfl ?_
      | refine k_add rfl rfl (by omega) ?_
      | refine k_sub rfl rfl (by omega) ?_
      | refine k_mul rfl rfl (by omega) ?_
      | refine k_neg rfl (by omega) ?_
      | refine k_quo rfl rfl (by omega) ?_
      | refine k_rem rfl rfl (by omega) ?_
      | refine k_conv rfl (by omega) ?_
      | refine k_max rfl rfl ?_
      | refine k_min rfl rfl ?_
      | refine k_lssT rfl rfl (by omega) ?_
      | refine k_lssF rfl rfl (by omega) ?_
      | refine k_lss rfl rfl (fun hc => ?_) (fun hc => ?_)
      | refine k_leqT rfl rfl (by omega) ?_
      | refine k_leqF rfl rfl (by omega) ?_
      | refine k_leq rfl rfl (fun hc => ?_) (fun hc => ?_)
      | refine k_gtrT rfl rfl (by omega) ?_
      | refine k_gtrF rfl rfl (by omega) ?_
      | refine k_gtr rfl rfl (fun hc => ?_) (fun hc => ?_)
      | refine k_geqT rfl rfl (by omega) ?_
      | refine k_geqF rfl rfl (by omega) ?_
      | refine k_geq rfl rfl (fun hc => ?_) (fun hc => ?_)
      | refine k_eqlT rfl rfl (by omega) ?_
      | refine k_eqlF rfl rfl (by omega) ?_
      | refine k_eql rfl rfl (fun hc => ?_) (fun hc => ?_)
      | refine k_neqT rfl rfl (by omega) ?_
      | refine k_neqF rfl rfl (by omega) ?_
      | refine k_neq rfl rfl (fun hc => ?_) (fun hc => ?_)
      | refine k_len rfl rfl ?_
      | refine k_ok rfl rfl ?_))
  have bA : Blk.At (h0 ++ ([.cells [X, O] true 0] ++ [.cells [.nilS, .nilS] true 0])) (h0.length + 0) [X, O] := ⟨true, 0, by rw [get_app]; rfl⟩
  have hq : Cellq h0 (h0 ++ ([.cells [X, O] true 0] ++ [.cells [.nilS, .nilS] true 0])) (h0.length + 1) := Cellq.of (z := 0) rfl
  have hG : IsG (h0 ++ ([.cells [X, O] true 0] ++ [.cells [.nilS, .nilS] true 0])) X O g := hg.app _
  generalize h0 ++ ([Blk.cells [X, O] true 0] ++ [.cells [.nilS, .nilS] true 0]) = B at *
  repeat' (first
    | refine w_seq ?_
    | refine w_seqN ?_
    | refine w_seqX ?_
    | refine w_seqR ?_
    | refine w_blk ?_
    | refine w_blkN ?_
    | refine w_blkX ?_
    | refine w_blkR ?_
    | refine w_skip ?_
    | refine w_ret ?_
    | refine w_exit ?_
    | refine w_ops ?_
    | refine w_opsD ?_
    | refine d_one ?_
    | refine d_nil ?_
    | ((refine i_cond ?_); first | refine w_condT rfl ?_ | refine w_condF rfl ?_)
    | ((refine i_nil ?_); first | refine d_same ?_ | refine d_ord ?_ | refine d_ext ⟨_, rfl⟩ ?_ | refine d_ext (extA _ _ _) ?_ | refine d_ext (by assumption) ?_ | refine w_end0 ?_ | refine w_end1 rfl ?_ | refine w_end2 rfl rfl ?_ | refine w_end3 rfl rfl rfl ?_ | refine w_end4 rfl rfl rfl rfl ?_ | refine w_end5 rfl rfl rfl rfl rfl ?_ | refine w_end6 rfl rfl rfl rfl rfl rfl ?_ | refine w_end7 rfl rfl rfl rfl rfl rfl rfl ?_ | refine w_end8 rfl rfl rfl rfl rfl rfl rfl rfl ?_ | refine w_end9 rfl rfl rfl rfl rfl rfl rfl rfl rfl ?_ | refine w_end10 rfl rfl rfl rfl rfl rfl rfl rfl rfl rfl ?_ | refine w_end11 rfl rfl rfl rfl rfl rfl rfl rfl rfl rfl rfl ?_ | refine w_end12 rfl rfl rfl rfl rfl rfl rfl rfl rfl rfl rfl rfl ?_ | refine w_end13 rfl rfl rfl rfl rfl rfl rfl rfl rfl rfl rfl rfl rfl ?_ | refine w_end14 rfl rfl rfl rfl rfl rfl rfl rfl rfl rfl rfl rfl rfl rfl ?_ | refine w_end15 rfl rfl rfl rfl rfl rfl rfl rfl rfl rfl rfl rfl rfl rfl rfl ?_ | refine w_end16 rfl rfl rfl rfl rfl rfl rfl rfl rfl rfl rfl rfl rfl rfl rfl rfl ?_)
    | ((refine i_cons ?_); first
      | refine k_ldb rfl bA rfl ?_
      | refine k_len rfl hl1 ?_
      | refine k_mkL rfl rfl hbd ?_
      | refine k_mk0 rfl rfl hbd ?_
      | refine k_bld rfl rfl ?_
      | refine k_newL ?_
      | refine k_stL rfl rfl rfl rfl rfl ?_
      | refine k_skip rfl ?_
      | refine k_skipU rfl ?_
      | refine k_want rfl ?_
      | refine k_mv rfl ?_
      | refine k_pickT rfl rfl ?_
      | refine k_pickF rfl rfl ?_
      | refine k_notT rfl ?_
      | refine k_notF rfl ?_
      | refine k_add rfl rfl (by omega) ?_
      | refine k_sub rfl rfl (by omega) ?_
      | refine k_mul rfl rfl (by omega) ?_
      | refine k_neg rfl (by omega) ?_
      | refine k_quo rfl rfl (by omega) ?_
      | refine k_rem rfl rfl (by omega) ?_
      | refine k_conv rfl (by omega) ?_
      | refine k_max rfl rfl ?_
      | refine k_min rfl rfl ?_
      | refine k_lssT rfl rfl (by omega) ?_
      | refine k_lssF rfl rfl (by omega) ?_
      | refine k_lss rfl rfl (fun hc => ?_) (fun hc => ?_)
      | refine k_leqT rfl rfl (by omega) ?_
      | refine k_leqF rfl rfl (by omega) ?_
      | refine k_leq rfl rfl (fun hc => ?_) (fun hc => ?_)
      | refine k_gtrT rfl rfl (by omega) ?_
      | refine k_gtrF rfl rfl (by omega) ?_
      | refine k_gtr rfl rfl (fun hc => ?_) (fun hc => ?_)
      | refine k_geqT rfl rfl (by omega) ?_
      | refine k_geqF rfl rfl (by omega) ?_
      | refine k_geq rfl rfl (fun hc => ?_) (fun hc => ?_)
      | refine k_eqlT rfl rfl (by omega) ?_
      | refine k_eqlF rfl rfl (by omega) ?_
      | refine k_eql rfl rfl (fun hc => ?_) (fun hc => ?_)
      | refine k_neqT rfl rfl (by omega) ?_
      | refine k_neqF rfl rfl (by omega) ?_
      | refine k_neq rfl rfl (fun hc => ?_) (fun hc => ?_)
      | refine k_len rfl rfl ?_
      | refine k_ok rfl rfl ?_))
  refine w_loop (I27 B (h0.length + 0) (h0.length + 1) n g) (cnt n 5) (R27 B (h0.length + 0) (h0.length + 1) n g) ⟨0, Nat.zero_le _, by simp [L21, S21, scat, ints, splice], rfl⟩ (round27 B _ _ X O n g bA hG hV.vd (by omega)) ?_
  rintro ex E' h' ⟨rfl, rfl, _, _, _, rfl⟩
  obtain ⟨B', q1, q2, q3, q4⟩ := hq (.slc (B.length + 0) 0 n (some n)) (.slc (B.length + 1) 0 n (some n))
  repeat' (first
    | refine w_seq ?_
    | refine w_seqN ?_
    | refine w_seqX ?_
    | refine w_seqR ?_
    | refine w_blk ?_
    | refine w_blkN ?_
    | refine w_blkX ?_
    | refine w_blkR ?_
    | refine w_skip ?_
    | refine w_ret ?_
    | refine w_exit ?_
    | refine w_ops ?_
    | refine w_opsD ?_
    | refine d_one ?_
    | refine d_nil ?_
    | ((refine i_cond ?_); first | refine w_condT rfl ?_ | refine w_condF rfl ?_)
    | ((refine i_nil ?_); first | refine d_same ?_ | refine d_ord ?_ | refine d_ext ⟨_, rfl⟩ ?_ | refine d_ext (extA _ _ _) ?_ | refine d_ext (by assumption) ?_ | refine w_end0 ?_ | refine w_end1 rfl ?_ | refine w_end2 rfl rfl ?_ | refine w_end3 rfl rfl rfl ?_ | refine w_end4 rfl rfl rfl rfl ?_ | refine w_end5 rfl rfl rfl rfl rfl ?_ | refine w_end6 rfl rfl rfl rfl rfl rfl ?_ | refine w_end7 rfl rfl rfl rfl rfl rfl rfl ?_ | refine w_end8 rfl rfl rfl rfl rfl rfl rfl rfl ?_ | refine w_end9 rfl rfl rfl rfl rfl rfl rfl rfl rfl ?_ | refine w_end10 rfl rfl rfl rfl rfl rfl rfl rfl rfl rfl ?_ | refine w_end11 rfl rfl rfl rfl rfl rfl rfl rfl rfl rfl rfl ?_ | refine w_end12 rfl rfl rfl rfl rfl rfl rfl rfl rfl rfl rfl rfl ?_ | refine w_end13 rfl rfl rfl rfl rfl rfl rfl rfl rfl rfl rfl rfl rfl ?_ | refine w_end14 rfl rfl rfl rfl rfl rfl rfl rfl rfl rfl rfl rfl rfl rfl ?_ | refine w_end15 rfl rfl rfl rfl rfl rfl rfl rfl rfl rfl rfl rfl rfl rfl rfl ?_ | refine w_end16 rfl rfl rfl rfl rfl rfl rfl rfl rfl rfl rfl rfl rfl rfl rfl rfl ?_)
    | ((refine i_cons ?_); first
      | refine k_ldAL rfl rfl ?_
      | refine k_stB rfl rfl rfl rfl q1 ?_
      | refine k_skip rfl ?_
      | refine k_skipU rfl ?_
      | refine k_want rfl ?_
      | refine k_mv rfl ?_
      | refine k_pickT rfl rfl ?_
      | refine k_pickF rfl rfl ?_
      | refine k_notT rfl ?_
      | refine k_notF rfl ?_
      | refine k_add rfl rfl (by omega) ?_
      | refine k_sub rfl rfl (by omega) ?_
      | refine k_mul rfl rfl (by omega) ?_
      | refine k_neg rfl (by omega) ?_
      | refine k_quo rfl rfl (by omega) ?_
      | refine k_rem rfl rfl (by omega) ?_
      | refine k_conv rfl (by omega) ?_
      | refine k_max rfl rfl ?_
      | refine k_min rfl rfl ?_
      | refine k_lssT rfl rfl (by omega) ?_
      | refine k_lssF rfl rfl (by omega) ?_
      | refine k_lss rfl rfl (fun hc => ?_) (fun hc => ?_)
      | refine k_leqT rfl rfl (by omega) ?_
      | refine k_leqF rfl rfl (by omega) ?_
      | refine k_leq rfl rfl (fun hc => ?_) (fun hc => ?_)
      | refine k_gtrT rfl rfl (by omega) ?_
      | refine k_gtrF rfl rfl (by omega) ?_
      | refine k_gtr rfl rfl (fun hc => ?_) (fun hc => ?_)
      | refine k_geqT rfl rfl (by omega) ?_
      | refine k_geqF rfl rfl (by omega) ?_
      | refine k_geq rfl rfl (fun hc => ?_) (fun hc => ?_)
      | refine k_eqlT rfl rfl (by omega) ?_
      | refine k_eqlF rfl rfl (by omega) ?_
      | refine k_eql rfl rfl (fun hc => ?_) (fun hc => ?_)
      | refine k_neqT rfl rfl (by omega) ?_
      | refine k_neqF rfl rfl (by omega) ?_
      | refine k_neq rfl rfl (fun hc => ?_) (fun hc => ?_)
      | refine k_len rfl rfl ?_
      | refine k_ok rfl rfl ?_))
  exact ⟨.inr rfl, oK_cell rfl (readN_app _ q3) ⟨q4.app _, _, _, rfl, rot_end hV.vd q2⟩⟩
end Go.Proofs.YtadelcikpkhclaaDoor
