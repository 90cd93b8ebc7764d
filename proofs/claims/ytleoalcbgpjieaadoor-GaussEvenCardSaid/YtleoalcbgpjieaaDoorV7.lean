/- diagram.Valid: its contract. -/
import Derived.Test.YtleoalcbgpjieaaDoorV6
namespace Go.Proofs.YtleoalcbgpjieaaDoor
open Go.Ab
set_option linter.unusedVariables false
set_option linter.unusedSimpArgs false
set_option maxRecDepth 20000
set_option maxHeartbeats 4000000
attribute [local irreducible] wOps wA wSeq wBlk wRound wRoundI wOpsD
variable {HK : FuncId → Option Hook}

/-- One half-edge and its mate. -/
def MateAt (xs ms : List Int) (h : Nat) : Prop := ∃ m : Nat, ms[h]? = some (m : Int) ∧ m < ms.length ∧ m ≠ h ∧ ms[m]? = some (h : Int) ∧ outB xs h ≠ outB xs m
theorem MateAt.lt {xs ms : List Int} {h : Nat} {x : Int} (hm : MateAt xs ms h) (hx : ms[h]? = some x) : 0 ≤ x ∧ x < ms.length ∧ x ≠ h := by
  obtain ⟨m, h1, h2, h3, _⟩ := hm
  rw [hx] at h1
  have := Option.some.inj h1
  omega
theorem MateAt.back {xs ms : List Int} {h t : Nat} {y : Int} (hm : MateAt xs ms h) (hx : ms[h]? = some (t : Int)) (hy : ms[t]? = some y) : y = h ∧ outB xs h ≠ outB xs t := by
  obtain ⟨m, h1, h2, h3, h4, h5⟩ := hm
  rw [hx] at h1
  have := Option.some.inj h1
  have : t = m := by omega
  subst this
  rw [hy] at h4
  exact ⟨Option.some.inj h4, h5⟩

/-! ### The signs -/
def I18a (h0 : Heap) (b : Nat) (s : SV) (xs : List Int) (E : Env) (h : Heap) : Prop := h = h0 ∧ ∃ i : Nat, i ≤ xs.length ∧ (∀ x ∈ xs.take i, Sgn x) ∧
  E = [(1, some (.sc (.ptr b 0))), (3, some (.sc (.int .i64 (xs.length : Nat)))), (32, some (.sc s)), (33, some (.sc (.int .i64 (xs.length : Nat)))), (34, some (.sc (.int .i64 (i : Nat))))]
def R18a (h0 : Heap) (b : Nat) (xs : List Int) (ex : Ex) (E : Env) (h : Heap) : Prop := h = h0 ∧ match ex with
  | .rt => E = [(2, some (.sc (.bool false)))] ∧ ¬ ∀ x ∈ xs, Sgn x
  | .ex z => z = 0 ∧ (∀ x ∈ xs, Sgn x) ∧ ∃ a c d e, E = [(1, some (.sc (.ptr b 0))), (3, some (.sc (.int .i64 (xs.length : Nat)))), (32, a), (33, c), (34, d), (35, e)]
  | .nm => False
theorem round18a (h0 : Heap) (b : Nat) (s : SV) (xs : List Int) (hs : IsInts h0 s xs) (hn : xs.length ≤ 64) (E : Env) (h : Heap) (hI : I18a h0 b s xs E h) :
    wA FT HK b18L0 (E.keep [1, 3, 32, 33, 34]) h (wRound (I18a h0 b s xs) (cntV xs.length 34) (cntV xs.length 34 E h) (R18a h0 b xs)) := by
  obtain ⟨rfl, i, hi, hall, rfl⟩ := hI
  by_cases hlt : i < xs.length
  · obtain ⟨x, hx⟩ : ∃ x, xs[i]? = some x := ⟨_, List.getElem?_eq_getElem hlt⟩
    have hm := List.mem_of_getElem? hx
    obtain ⟨id, off, cap, rfl, hrd⟩ := IsInts.at hs hx
    have next : Sgn x → ∀ y ∈ xs.take (i + 1), Sgn y := fun h y hy => by
      rw [take_snoc hx] at hy
      rcases List.mem_append.1 hy with hy | hy
      · exact hall y hy
      · simp at hy; subst hy; exact h
    by_cases h1 : x = 1
    · have h2 := next (.inl h1)
      repeat' (first | refine w_seq ?_ | refine w_seqN ?_ | refine w_blk ?_ | refine w_blkN ?_ | refine w_skip ?_ | refine w_ops ?_ | ((refine i_cond ?_); first | refine w_condT rfl ?_ | refine w_condF rfl ?_) | ((refine i_nil ?_); first | refine w_end5 rfl rfl rfl rfl rfl ?_ | refine w_end6 rfl rfl rfl rfl rfl rfl ?_) | ((refine i_cons ?_); first | refine k_idxA rfl rfl (by omega) ?_ | refine k_ld rfl hrd ?_ | refine k_skip rfl ?_ | refine k_mv rfl ?_ | refine k_pickF rfl rfl ?_ | refine k_add rfl rfl (by omega) ?_ | refine k_lssT rfl rfl (by omega) ?_ | refine k_neqF rfl rfl (by omega) ?_))
      exact w_roundN ⟨rfl, i + 1, by omega, h2, rfl⟩ (by simp [cntV, Env.get]; omega)
    · by_cases h3 : x = -1
      · have h2 := next (.inr h3)
        repeat' (first | refine w_seq ?_ | refine w_seqN ?_ | refine w_blk ?_ | refine w_blkN ?_ | refine w_skip ?_ | refine w_ops ?_ | ((refine i_cond ?_); first | refine w_condT rfl ?_ | refine w_condF rfl ?_) | ((refine i_nil ?_); first | refine w_end5 rfl rfl rfl rfl rfl ?_ | refine w_end6 rfl rfl rfl rfl rfl rfl ?_) | ((refine i_cons ?_); first | refine k_idxA rfl rfl (by omega) ?_ | refine k_ld rfl hrd ?_ | refine k_want rfl ?_ | refine k_mv rfl ?_ | refine k_pickT rfl rfl ?_ | refine k_add rfl rfl (by omega) ?_ | refine k_lssT rfl rfl (by omega) ?_ | refine k_neqT rfl rfl (by omega) ?_ | refine k_neqF rfl rfl (by omega) ?_))
        exact w_roundN ⟨rfl, i + 1, by omega, h2, rfl⟩ (by simp [cntV, Env.get]; omega)
      · have hno : ¬ ∀ y ∈ xs, Sgn y := fun h => (h x hm).elim h1 h3
        repeat' (first | refine w_seq ?_ | refine w_seqN ?_ | refine w_seqR ?_ | refine w_blk ?_ | refine w_blkR ?_ | refine w_skip ?_ | refine w_ret ?_ | refine w_ops ?_ | ((refine i_cond ?_); refine w_condT rfl ?_) | ((refine i_nil ?_); first | refine w_end1 rfl ?_ | refine w_end6 rfl rfl rfl rfl rfl rfl ?_) | ((refine i_cons ?_); first | refine k_idxA rfl rfl (by omega) ?_ | refine k_ld rfl hrd ?_ | refine k_want rfl ?_ | refine k_mv rfl ?_ | refine k_pickT rfl rfl ?_ | refine k_lssT rfl rfl (by omega) ?_ | refine k_neqT rfl rfl (by omega) ?_))
        exact w_roundR ⟨rfl, rfl, hno⟩
  · rw [List.take_of_length_le (by omega)] at hall
    repeat' (first | refine w_seq ?_ | refine w_seqN ?_ | refine w_seqX ?_ | refine w_exit ?_ | refine w_ops ?_ | ((refine i_cond ?_); refine w_condF rfl ?_) | ((refine i_nil ?_); refine w_end6 rfl rfl rfl rfl rfl rfl ?_) | ((refine i_cons ?_); refine k_lssF rfl rfl (by omega) ?_))
    exact w_roundX ⟨rfl, rfl, hall, _, _, _, _, rfl⟩

/-! ### The mates -/
def I18m (h0 : Heap) (b : Nat) (m : SV) (xs ms : List Int) (E : Env) (h : Heap) : Prop := Ext h0 h ∧ ∃ i : Nat, i ≤ ms.length ∧ (∀ j, j < i → MateAt xs ms j) ∧
  E = [(1, some (.sc (.ptr b 0))), (3, some (.sc (.int .i64 (xs.length : Nat)))), (46, some (.sc m)), (47, some (.sc (.int .i64 (ms.length : Nat)))), (48, some (.sc (.int .i64 (i : Nat))))]
def R18m (h0 : Heap) (b : Nat) (xs ms : List Int) (ex : Ex) (E : Env) (h : Heap) : Prop := Ext h0 h ∧ match ex with
  | .rt => E = [(2, some (.sc (.bool false)))] ∧ ¬ MatesOk xs ms
  | .ex z => z = 2 ∧ MatesOk xs ms ∧ ∃ a c d e f, E = [(1, some (.sc (.ptr b 0))), (3, a), (46, c), (47, d), (48, e), (49, f)]
  | .nm => False
theorem round18m (hk38 : HK 38 = none) (h0 : Heap) (b : Nat) (s m : SV) (l : Int) (hbx : Blk.At h0 b [s, m, .int .i64 l]) (xs ms : List Int) (hx0 : IsInts h0 s xs) (hs : IsInts h0 m ms) (hn : xs.length ≤ 64) (h4 : ms.length = 4 * xs.length) (E : Env) (h : Heap) (hI : I18m h0 b m xs ms E h) :
    wA FT HK b18L1 (E.keep [1, 3, 46, 47, 48]) h (wRound (I18m h0 b m xs ms) (cntV ms.length 48) (cntV ms.length 48 E h) (R18m h0 b xs ms)) := by
  obtain ⟨he, i, hi, hall, rfl⟩ := hI
  by_cases hlt : i < ms.length
  · obtain ⟨x, hx⟩ : ∃ x, ms[i]? = some x := ⟨_, List.getElem?_eq_getElem hlt⟩
    have hbx2 := hbx.ext he
    have hbT : ∀ T, Blk.At (h ++ T) b [s, m, .int .i64 l] := fun T => hbx2.ext ⟨T, rfl⟩
    obtain ⟨id, off, cap, rfl, hrd⟩ := IsInts.at (IsSl.ext hs he) hx
    have no : ¬ MateAt xs ms i → ¬ MatesOk xs ms := fun h1 h2 => h1 (h2 i hlt)
    by_cases c1 : x < 0
    · have hno := no fun h => by have := h.lt hx; omega
      repeat' (first | refine w_seq ?_ | refine w_seqN ?_ | refine w_seqR ?_ | refine w_blk ?_ | refine w_blkR ?_ | refine w_skip ?_ | refine w_ret ?_ | refine w_ops ?_ | ((refine i_cond ?_); refine w_condT rfl ?_) | ((refine i_nil ?_); first | refine w_end1 rfl ?_ | refine w_end6 rfl rfl rfl rfl rfl rfl ?_ | refine w_end7 rfl rfl rfl rfl rfl rfl rfl ?_ | refine w_end8 rfl rfl rfl rfl rfl rfl rfl rfl ?_) | ((refine i_cons ?_); first | refine k_idxA rfl rfl (by omega) ?_ | refine k_ld rfl hrd ?_ | refine k_skip rfl ?_ | refine k_mv rfl ?_ | refine k_pickT rfl rfl ?_ | refine k_lssT rfl rfl (by omega) ?_))
      exact w_roundR ⟨he, rfl, hno⟩
    by_cases c2 : 4 * (xs.length : Int) ≤ x
    · have hno := no fun h => by have := h.lt hx; omega
      repeat' (first | refine w_seq ?_ | refine w_seqN ?_ | refine w_seqR ?_ | refine w_blk ?_ | refine w_blkR ?_ | refine w_skip ?_ | refine w_ret ?_ | refine w_ops ?_ | ((refine i_cond ?_); refine w_condT rfl ?_) | ((refine i_nil ?_); first | refine w_end1 rfl ?_ | refine w_end6 rfl rfl rfl rfl rfl rfl ?_ | refine w_end7 rfl rfl rfl rfl rfl rfl rfl ?_ | refine w_end8 rfl rfl rfl rfl rfl rfl rfl rfl ?_) | ((refine i_cons ?_); first | refine k_idxA rfl rfl (by omega) ?_ | refine k_ld rfl hrd ?_ | refine k_skip rfl ?_ | refine k_want rfl ?_ | refine k_mv rfl ?_ | refine k_pickT rfl rfl ?_ | refine k_pickF rfl rfl ?_ | refine k_mul rfl rfl (by omega) ?_ | refine k_lssT rfl rfl (by omega) ?_ | refine k_lssF rfl rfl (by omega) ?_ | refine k_geqT rfl rfl (by omega) ?_))
      exact w_roundR ⟨he, rfl, hno⟩
    by_cases c3 : x = (i : Int)
    · have hno := no fun h => by have := h.lt hx; omega
      repeat' (first | refine w_seq ?_ | refine w_seqN ?_ | refine w_seqR ?_ | refine w_blk ?_ | refine w_blkR ?_ | refine w_skip ?_ | refine w_ret ?_ | refine w_ops ?_ | ((refine i_cond ?_); refine w_condT rfl ?_) | ((refine i_nil ?_); first | refine w_end1 rfl ?_ | refine w_end6 rfl rfl rfl rfl rfl rfl ?_ | refine w_end7 rfl rfl rfl rfl rfl rfl rfl ?_ | refine w_end8 rfl rfl rfl rfl rfl rfl rfl rfl ?_) | ((refine i_cons ?_); first | refine k_idxA rfl rfl (by omega) ?_ | refine k_ld rfl hrd ?_ | refine k_skip rfl ?_ | refine k_want rfl ?_ | refine k_mv rfl ?_ | refine k_pickT rfl rfl ?_ | refine k_pickF rfl rfl ?_ | refine k_mul rfl rfl (by omega) ?_ | refine k_lssT rfl rfl (by omega) ?_ | refine k_lssF rfl rfl (by omega) ?_ | refine k_geqF rfl rfl (by omega) ?_ | refine k_eqlT rfl rfl (by omega) ?_))
      exact w_roundR ⟨he, rfl, hno⟩
    obtain ⟨t, rfl⟩ : ∃ t : Nat, x = t := ⟨x.toNat, by omega⟩
    have htl : t < ms.length := by omega
    obtain ⟨y, hy⟩ : ∃ y, ms[t]? = some y := ⟨_, List.getElem?_eq_getElem htl⟩
    obtain ⟨id2, off2, cap2, e2, hrd2⟩ := IsInts.at (IsSl.ext hs he) hy
    simp only [SV.slc.injEq, true_and] at e2
    obtain ⟨rfl, rfl, rfl⟩ := e2
    by_cases c4 : y = (i : Int)
    · subst c4
      have k1 : ∀ H, Ext h0 H → ∃ v h', Cal FT HK 38 [.agg [s, .slc id off ms.length cap, .int .i64 l], .sc (.int .i64 (i : Nat))] H v h' ∧ ToB (outB xs i) H v h' := fun H e => call38 hk38 H s _ _ xs (IsSl.ext hx0 e) i (by omega) (by omega)
      have k2 : ∀ H, Ext h0 H → ∃ v h', Cal FT HK 38 [.agg [s, .slc id off ms.length cap, .int .i64 l], .sc (.int .i64 (t : Nat))] H v h' ∧ ToB (outB xs t) H v h' := fun H e => call38 hk38 H s _ _ xs (IsSl.ext hx0 e) t (by omega) (by omega)
      have out : outB xs i = outB xs t → ¬ MatesOk xs ms := fun h1 => no fun h => (h.back hx hy).2 h1
      have out2 : outB xs i ≠ outB xs t → ∀ j, j < i + 1 → MateAt xs ms j := fun h1 j hj => by
        rcases Nat.lt_or_ge j i with h2 | h2
        · exact hall j h2
        · have : j = i := by omega
          subst this
          exact ⟨t, hx, htl, by omega, hy, h1⟩
      cases o1 : outB xs i <;> cases o2 : outB xs t <;> rw [o1] at k1 out out2 <;> rw [o2] at k2 out out2
      · have hno := out rfl
        repeat' (first | refine w_seq ?_ | refine w_seqN ?_ | refine w_seqR ?_ | refine w_blk ?_ | refine w_blkR ?_ | refine w_skip ?_ | refine w_ret ?_ | refine w_ops ?_ | refine w_opsD ?_ | refine d_one ?_ | refine d_nil ?_ | ((refine i_cond ?_); first | refine w_condT rfl ?_ | refine w_condF rfl ?_) | ((refine i_nil ?_); first | refine d_same ?_ | refine d_ord ?_ | refine d_ext ⟨_, rfl⟩ ?_ | refine w_end1 rfl ?_ | refine w_end6 rfl rfl rfl rfl rfl rfl ?_ | refine w_end7 rfl rfl rfl rfl rfl rfl rfl ?_ | refine w_end8 rfl rfl rfl rfl rfl rfl rfl rfl ?_) | ((refine i_cons ?_); first | refine k_idxA rfl rfl (by omega) ?_ | refine k_ld rfl hrd ?_ | refine k_ld rfl hrd2 ?_ | refine k_fldA rfl ?_ | refine k_ldb rfl hbx2 rfl ?_ | refine k_ldA rfl hbx2 rfl ?_ | (refine k_call rfl (k1 _ he) ?_; rintro v hh ⟨⟨t, rfl⟩, rfl⟩) | refine k_ldA rfl (hbT _) rfl ?_ | (refine k_call rfl (k2 _ (he.app _)) ?_; rintro v hh ⟨⟨t, rfl⟩, rfl⟩) | refine k_beq rfl rfl ?_ | refine k_want rfl ?_ | refine k_mv rfl ?_ | refine k_pickF rfl rfl ?_ | refine k_mul rfl rfl (by omega) ?_ | refine k_lssT rfl rfl (by omega) ?_ | refine k_lssF rfl rfl (by omega) ?_ | refine k_geqF rfl rfl (by omega) ?_ | refine k_eqlF rfl rfl (by omega) ?_ | refine k_neqF rfl rfl (by omega) ?_))
        exact w_roundR ⟨(he.app _).app _, rfl, hno⟩
      · have hyes := out2 (by decide)
        repeat' (first | refine w_seq ?_ | refine w_seqN ?_ | refine w_blk ?_ | refine w_blkN ?_ | refine w_skip ?_ | refine w_ops ?_ | refine w_opsD ?_ | refine d_one ?_ | refine d_nil ?_ | ((refine i_cond ?_); first | refine w_condT rfl ?_ | refine w_condF rfl ?_) | ((refine i_nil ?_); first | refine d_same ?_ | refine d_ord ?_ | refine d_ext ⟨_, rfl⟩ ?_ | refine w_end5 rfl rfl rfl rfl rfl ?_ | refine w_end6 rfl rfl rfl rfl rfl rfl ?_ | refine w_end7 rfl rfl rfl rfl rfl rfl rfl ?_ | refine w_end8 rfl rfl rfl rfl rfl rfl rfl rfl ?_) | ((refine i_cons ?_); first | refine k_idxA rfl rfl (by omega) ?_ | refine k_ld rfl hrd ?_ | refine k_ld rfl hrd2 ?_ | refine k_fldA rfl ?_ | refine k_ldb rfl hbx2 rfl ?_ | refine k_ldA rfl hbx2 rfl ?_ | (refine k_call rfl (k1 _ he) ?_; rintro v hh ⟨⟨t, rfl⟩, rfl⟩) | refine k_ldA rfl (hbT _) rfl ?_ | (refine k_call rfl (k2 _ (he.app _)) ?_; rintro v hh ⟨⟨t, rfl⟩, rfl⟩) | refine k_beq rfl rfl ?_ | refine k_want rfl ?_ | refine k_mv rfl ?_ | refine k_pickF rfl rfl ?_ | refine k_add rfl rfl (by omega) ?_ | refine k_mul rfl rfl (by omega) ?_ | refine k_lssT rfl rfl (by omega) ?_ | refine k_lssF rfl rfl (by omega) ?_ | refine k_geqF rfl rfl (by omega) ?_ | refine k_eqlF rfl rfl (by omega) ?_ | refine k_neqF rfl rfl (by omega) ?_))
        exact w_roundN ⟨(he.app _).app _, i + 1, by omega, hyes, rfl⟩ (by simp [cntV, Env.get]; omega)
      · have hyes := out2 (by decide)
        repeat' (first | refine w_seq ?_ | refine w_seqN ?_ | refine w_blk ?_ | refine w_blkN ?_ | refine w_skip ?_ | refine w_ops ?_ | refine w_opsD ?_ | refine d_one ?_ | refine d_nil ?_ | ((refine i_cond ?_); first | refine w_condT rfl ?_ | refine w_condF rfl ?_) | ((refine i_nil ?_); first | refine d_same ?_ | refine d_ord ?_ | refine d_ext ⟨_, rfl⟩ ?_ | refine w_end5 rfl rfl rfl rfl rfl ?_ | refine w_end6 rfl rfl rfl rfl rfl rfl ?_ | refine w_end7 rfl rfl rfl rfl rfl rfl rfl ?_ | refine w_end8 rfl rfl rfl rfl rfl rfl rfl rfl ?_) | ((refine i_cons ?_); first | refine k_idxA rfl rfl (by omega) ?_ | refine k_ld rfl hrd ?_ | refine k_ld rfl hrd2 ?_ | refine k_fldA rfl ?_ | refine k_ldb rfl hbx2 rfl ?_ | refine k_ldA rfl hbx2 rfl ?_ | (refine k_call rfl (k1 _ he) ?_; rintro v hh ⟨⟨t, rfl⟩, rfl⟩) | refine k_ldA rfl (hbT _) rfl ?_ | (refine k_call rfl (k2 _ (he.app _)) ?_; rintro v hh ⟨⟨t, rfl⟩, rfl⟩) | refine k_beq rfl rfl ?_ | refine k_want rfl ?_ | refine k_mv rfl ?_ | refine k_pickF rfl rfl ?_ | refine k_add rfl rfl (by omega) ?_ | refine k_mul rfl rfl (by omega) ?_ | refine k_lssT rfl rfl (by omega) ?_ | refine k_lssF rfl rfl (by omega) ?_ | refine k_geqF rfl rfl (by omega) ?_ | refine k_eqlF rfl rfl (by omega) ?_ | refine k_neqF rfl rfl (by omega) ?_))
        exact w_roundN ⟨(he.app _).app _, i + 1, by omega, hyes, rfl⟩ (by simp [cntV, Env.get]; omega)
      · have hno := out rfl
        repeat' (first | refine w_seq ?_ | refine w_seqN ?_ | refine w_seqR ?_ | refine w_blk ?_ | refine w_blkR ?_ | refine w_skip ?_ | refine w_ret ?_ | refine w_ops ?_ | refine w_opsD ?_ | refine d_one ?_ | refine d_nil ?_ | ((refine i_cond ?_); first | refine w_condT rfl ?_ | refine w_condF rfl ?_) | ((refine i_nil ?_); first | refine d_same ?_ | refine d_ord ?_ | refine d_ext ⟨_, rfl⟩ ?_ | refine w_end1 rfl ?_ | refine w_end6 rfl rfl rfl rfl rfl rfl ?_ | refine w_end7 rfl rfl rfl rfl rfl rfl rfl ?_ | refine w_end8 rfl rfl rfl rfl rfl rfl rfl rfl ?_) | ((refine i_cons ?_); first | refine k_idxA rfl rfl (by omega) ?_ | refine k_ld rfl hrd ?_ | refine k_ld rfl hrd2 ?_ | refine k_fldA rfl ?_ | refine k_ldb rfl hbx2 rfl ?_ | refine k_ldA rfl hbx2 rfl ?_ | (refine k_call rfl (k1 _ he) ?_; rintro v hh ⟨⟨t, rfl⟩, rfl⟩) | refine k_ldA rfl (hbT _) rfl ?_ | (refine k_call rfl (k2 _ (he.app _)) ?_; rintro v hh ⟨⟨t, rfl⟩, rfl⟩) | refine k_beq rfl rfl ?_ | refine k_want rfl ?_ | refine k_mv rfl ?_ | refine k_pickF rfl rfl ?_ | refine k_mul rfl rfl (by omega) ?_ | refine k_lssT rfl rfl (by omega) ?_ | refine k_lssF rfl rfl (by omega) ?_ | refine k_geqF rfl rfl (by omega) ?_ | refine k_eqlF rfl rfl (by omega) ?_ | refine k_neqF rfl rfl (by omega) ?_))
        exact w_roundR ⟨(he.app _).app _, rfl, hno⟩
    · have hno := no fun h => c4 (h.back hx hy).1
      repeat' (first | refine w_seq ?_ | refine w_seqN ?_ | refine w_seqR ?_ | refine w_blk ?_ | refine w_blkR ?_ | refine w_skip ?_ | refine w_ret ?_ | refine w_ops ?_ | ((refine i_cond ?_); refine w_condT rfl ?_) | ((refine i_nil ?_); first | refine w_end1 rfl ?_ | refine w_end6 rfl rfl rfl rfl rfl rfl ?_ | refine w_end7 rfl rfl rfl rfl rfl rfl rfl ?_ | refine w_end8 rfl rfl rfl rfl rfl rfl rfl rfl ?_) | ((refine i_cons ?_); first | refine k_idxA rfl rfl (by omega) ?_ | refine k_ld rfl hrd ?_ | refine k_ld rfl hrd2 ?_ | refine k_fldA rfl ?_ | refine k_ldb rfl hbx2 rfl ?_ | refine k_want rfl ?_ | refine k_mv rfl ?_ | refine k_pickF rfl rfl ?_ | refine k_mul rfl rfl (by omega) ?_ | refine k_lssT rfl rfl (by omega) ?_ | refine k_lssF rfl rfl (by omega) ?_ | refine k_geqF rfl rfl (by omega) ?_ | refine k_eqlF rfl rfl (by omega) ?_ | refine k_neqT rfl rfl (by omega) ?_))
      exact w_roundR ⟨he, rfl, hno⟩
  · repeat' (first | refine w_seq ?_ | refine w_seqN ?_ | refine w_seqX ?_ | refine w_exit ?_ | refine w_ops ?_ | ((refine i_cond ?_); refine w_condF rfl ?_) | ((refine i_nil ?_); refine w_end6 rfl rfl rfl rfl rfl rfl ?_) | ((refine i_cons ?_); refine k_lssF rfl rfl (by omega) ?_))
    exact w_roundX ⟨he, rfl, fun j hj => hall j (by omega), _, _, _, _, _, rfl⟩

theorem call18 (hk : HK 18 = none) (hk38 : HK 38 = none) (hk39 : HK 39 = none) (hk59 : HK 59 = none) (hk57 : HK 57 = none) (h0 : Heap) (s m : SV) (l : Int) (xs ms : List Int) (hx : IsInts h0 s xs) (hs : IsInts h0 m ms) :
    ∃ v h', Cal FT HK 18 [.agg [s, m, .int .i64 l]] h0 v h' ∧ Ext h0 h' ∧ ∃ b, v = .sc (.bool b) ∧ (b = true ↔ PV xs ms l) := by
  refine Cal.of (F := a18) hk rfl rfl ?_
  have hxl : lenS false s = some (xs.length : Int) := IsSl.len hx
  have hml : lenS false m = some (ms.length : Int) := IsSl.len hs
  have no : ∀ {h' : Heap}, Ext h0 h' → ¬ PV xs ms l → Ext h0 h' ∧ ∃ b, (AV.sc (SV.bool false)) = .sc (.bool b) ∧ (b = true ↔ PV xs ms l) := fun he hno => ⟨he, false, rfl, by simpa using hno⟩
  by_cases c1 : 64 < xs.length
  · have hno : ¬ PV xs ms l := fun h => by have := h.1.n64; omega
    repeat' (first | refine w_seq ?_ | refine w_seqN ?_ | refine w_seqR ?_ | refine w_ret ?_ | refine w_ops ?_ | ((refine i_cond ?_); refine w_condT rfl ?_) | ((refine i_nil ?_); first | refine w_end1 rfl ?_ | refine w_end2 rfl rfl ?_ | refine w_end3 rfl rfl rfl ?_) | ((refine i_cons ?_); first | (refine k_box rfl rfl ?_; intro h1 e1 l1 b1) | refine k_fldA rfl ?_ | refine k_ldb rfl b1 rfl ?_ | refine k_len rfl hxl ?_ | refine k_skip rfl ?_ | refine k_mv rfl ?_ | refine k_pickT rfl rfl ?_ | refine k_gtrT rfl rfl (by omega) ?_))
    exact ⟨.inr rfl, no e1 hno⟩
  by_cases c2 : ms.length = 4 * xs.length
  · by_cases c3 : l < 0
    · have hno : ¬ PV xs ms l := fun h => by have := h.1.l0; omega
      repeat' (first | refine w_seq ?_ | refine w_seqN ?_ | refine w_seqR ?_ | refine w_ret ?_ | refine w_ops ?_ | ((refine i_cond ?_); refine w_condT rfl ?_) | ((refine i_nil ?_); first | refine w_end1 rfl ?_ | refine w_end2 rfl rfl ?_ | refine w_end3 rfl rfl rfl ?_) | ((refine i_cons ?_); first | (refine k_box rfl rfl ?_; intro h1 e1 l1 b1) | refine k_fldA rfl ?_ | refine k_ldb rfl b1 rfl ?_ | refine k_len rfl hxl ?_ | refine k_len rfl hml ?_ | refine k_skip rfl ?_ | refine k_want rfl ?_ | refine k_mv rfl ?_ | refine k_pickT rfl rfl ?_ | refine k_pickF rfl rfl ?_ | refine k_mul rfl rfl (by omega) ?_ | refine k_lssT rfl rfl (by omega) ?_ | refine k_gtrF rfl rfl (by omega) ?_ | refine k_neqF rfl rfl (by omega) ?_))
      exact ⟨.inr rfl, no e1 hno⟩
    by_cases c4 : 64 < l
    · have hno : ¬ PV xs ms l := fun h => by have := h.1.l64; omega
      repeat' (first | refine w_seq ?_ | refine w_seqN ?_ | refine w_seqR ?_ | refine w_ret ?_ | refine w_ops ?_ | ((refine i_cond ?_); refine w_condT rfl ?_) | ((refine i_nil ?_); first | refine w_end1 rfl ?_ | refine w_end2 rfl rfl ?_ | refine w_end3 rfl rfl rfl ?_) | ((refine i_cons ?_); first | (refine k_box rfl rfl ?_; intro h1 e1 l1 b1) | refine k_fldA rfl ?_ | refine k_ldb rfl b1 rfl ?_ | refine k_len rfl hxl ?_ | refine k_len rfl hml ?_ | refine k_want rfl ?_ | refine k_mv rfl ?_ | refine k_pickF rfl rfl ?_ | refine k_mul rfl rfl (by omega) ?_ | refine k_lssF rfl rfl (by omega) ?_ | refine k_gtrT rfl rfl (by omega) ?_ | refine k_gtrF rfl rfl (by omega) ?_ | refine k_neqF rfl rfl (by omega) ?_))
      exact ⟨.inr rfl, no e1 hno⟩
    repeat' (first | refine w_seq ?_ | refine w_seqN ?_ | refine w_blk ?_ | refine w_skip ?_ | refine w_ops ?_ | ((refine i_cond ?_); refine w_condF rfl ?_) | ((refine i_nil ?_); first | refine w_end1 rfl ?_ | refine w_end2 rfl rfl ?_ | refine w_end3 rfl rfl rfl ?_ | refine w_end5 rfl rfl rfl rfl rfl ?_) | ((refine i_cons ?_); first | (refine k_box rfl rfl ?_; intro h1 e1 l1 b1) | refine k_fldA rfl ?_ | refine k_ldb rfl b1 rfl ?_ | refine k_len rfl hxl ?_ | refine k_len rfl hml ?_ | refine k_want rfl ?_ | refine k_mv rfl ?_ | refine k_pickF rfl rfl ?_ | refine k_mul rfl rfl (by omega) ?_ | refine k_lssF rfl rfl (by omega) ?_ | refine k_gtrF rfl rfl (by omega) ?_ | refine k_neqF rfl rfl (by omega) ?_))
    refine w_loop (I18a h1 h0.length s xs) (cntV xs.length 34) (R18a h1 h0.length xs) ⟨rfl, 0, Nat.zero_le _, by simp, rfl⟩ (round18a h1 h0.length s xs (IsSl.ext hx e1) (by omega)) ?_
    rintro ex E' h' ⟨rfl, hR⟩
    cases ex with
    | nm => exact hR.elim
    | rt =>
      obtain ⟨rfl, hno⟩ := hR
      repeat' (first | refine w_seqR ?_ | refine w_blkR ?_)
      exact ⟨.inr rfl, no e1 fun h => hno h.1.sgn⟩
    | ex z =>
      obtain ⟨rfl, hsg, a, c, d, e, rfl⟩ := hR
      repeat' (first | refine w_seq ?_ | refine w_seqN ?_ | refine w_blk ?_ | refine w_blkX ?_ | refine w_ops ?_ | ((refine i_nil ?_); refine w_end5 rfl rfl rfl rfl rfl ?_) | ((refine i_cons ?_); first | refine k_fldA rfl ?_ | refine k_ldb rfl b1 rfl ?_ | refine k_len rfl hml ?_ | refine k_mv rfl ?_))
      refine w_loop (I18m h' h0.length m xs ms) (cntV ms.length 48) (R18m h' h0.length xs ms) ⟨Ext.refl _, 0, Nat.zero_le _, fun j hj => by omega, rfl⟩ (round18m hk38 h' h0.length s m l b1 xs ms (IsSl.ext hx e1) (IsSl.ext hs e1) (by omega) c2) ?_
      rintro ex E' h2 ⟨e2, hR⟩
      cases ex with
      | nm => exact hR.elim
      | rt =>
        obtain ⟨rfl, hno⟩ := hR
        repeat' (first | refine w_seqR ?_ | refine w_blkR ?_)
        exact ⟨.inr rfl, no (e1.trans e2) fun h => hno h.1.ok⟩
      | ex z =>
        obtain ⟨rfl, hok, a, c, d, e, f, rfl⟩ := hR
        have hF : Front xs ms l := ⟨by omega, c2, by omega, by omega, hsg, hok⟩
        have b2 := b1.ext e2
        have k1 := call39 hk39 hk59 hk57 h2 s m l xs ms (IsSl.ext hx (e1.trans e2)) (IsSl.ext hs (e1.trans e2)) hF.mates hF.inv hF.fits hF.n64
        repeat' (first | refine w_seq ?_ | refine w_seqN ?_ | refine w_blkX ?_ | refine w_ret ?_ | refine w_ops ?_ | ((refine i_nil ?_); refine w_end1 rfl ?_) | ((refine i_cons ?_); first | refine k_ldA rfl b2 rfl ?_ | (refine k_call rfl k1 ?_; rintro v h3 ⟨e3, r, rfl, hr⟩) | refine k_mv rfl ?_))
        exact ⟨.inr rfl, (e1.trans e2).trans e3, r, rfl, hr.trans ⟨fun h => ⟨hF, h⟩, fun h => h.2⟩⟩
  · have hno : ¬ PV xs ms l := fun h => c2 h.1.four
    repeat' (first | refine w_seq ?_ | refine w_seqN ?_ | refine w_seqR ?_ | refine w_ret ?_ | refine w_ops ?_ | ((refine i_cond ?_); refine w_condT rfl ?_) | ((refine i_nil ?_); first | refine w_end1 rfl ?_ | refine w_end2 rfl rfl ?_ | refine w_end3 rfl rfl rfl ?_) | ((refine i_cons ?_); first | (refine k_box rfl rfl ?_; intro h1 e1 l1 b1) | refine k_fldA rfl ?_ | refine k_ldb rfl b1 rfl ?_ | refine k_len rfl hxl ?_ | refine k_len rfl hml ?_ | refine k_skip rfl ?_ | refine k_want rfl ?_ | refine k_mv rfl ?_ | refine k_pickT rfl rfl ?_ | refine k_pickF rfl rfl ?_ | refine k_mul rfl rfl (by omega) ?_ | refine k_gtrF rfl rfl (by omega) ?_ | refine k_neqT rfl rfl (by omega) ?_))
    exact ⟨.inr rfl, no e1 hno⟩

end Go.Proofs.YtleoalcbgpjieaaDoor
