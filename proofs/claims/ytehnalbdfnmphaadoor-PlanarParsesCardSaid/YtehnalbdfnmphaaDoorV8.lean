/- The reference's Valid: its contract. -/
import Derived.Test.YtehnalbdfnmphaaDoorV7
namespace Go.Proofs.YtehnalbdfnmphaaDoor
open Go.Ab
set_option linter.unusedVariables false
set_option linter.unusedSimpArgs false
set_option maxRecDepth 20000
set_option maxHeartbeats 4000000
attribute [local irreducible] wOps wA wSeq wBlk wRound wRoundI wOpsD
variable {HK : FuncId → Option Hook}

theorem oK_t {E : Env} {h : Heap} {t : Nat} {v : SV} {Q : AV → Prop} (hE : E.get t = some (.sc v)) (hQ : Q (.sc v)) : oK (resultsA [.t t] E h) Q := by
  have : resultsA [.t t] E h = some (.sc v) := by simp only [resultsA, resOne, hE, Option.bind_some, AV.pv, Option.map_some, PV.av]
  rw [this]; exact hQ

def I13m (h0 : Heap) (s m : SV) (l : Int) (xs ms : List Int) (E : Env) (h : Heap) : Prop := h = DB h0 s m l ∧ ∃ i : Nat, i ≤ ms.length ∧ (∀ j, j < i → MateAt xs ms j) ∧
  E = [(1, some (.sc (.ptr h0.length 0))), (3, some (.sc (.int .i64 (xs.length : Nat)))), (5, some (.sc (.int .i64 (i : Nat))))]
def R13m (h0 : Heap) (s m : SV) (l : Int) (xs ms : List Int) (ex : Ex) (E : Env) (h : Heap) : Prop := h = DB h0 s m l ∧ match ex with
  | .rt => E = [(2, some (.sc (.bool false)))] ∧ ¬ MatesOk xs ms
  | .ex z => z = 2 ∧ MatesOk xs ms ∧ ∃ a f, E = [(1, some (.sc (.ptr h0.length 0))), (3, some (.sc (.int .i64 (xs.length : Nat)))), (5, a), (59, f)]
  | .nm => False
theorem DB_at (h0 : Heap) (s m : SV) (l : Int) : Blk.At (DB h0 s m l) h0.length [s, m, .int .i64 l] := Blk.At.last h0 _ true 0
theorem DB_ext (h0 : Heap) (s m : SV) (l : Int) : Ext h0 (DB h0 s m l) := ⟨_, rfl⟩
theorem round13m (hk34 : HK 34 = none) (h0 : Heap) (s m : SV) (l : Int) (xs ms : List Int) (hx0 : IsInts h0 s xs) (hs : IsInts h0 m ms) (hn : xs.length ≤ 64) (h4 : ms.length = 4 * xs.length) (E : Env) (h : Heap) (hI : I13m h0 s m l xs ms E h) :
    wA FT HK b13L1 (E.keep [1, 3, 5]) h (wRound (I13m h0 s m l xs ms) (cntV ms.length 5) (cntV ms.length 5 E h) (R13m h0 s m l xs ms)) := by
  obtain ⟨rfl, i, hi, hall, rfl⟩ := hI
  by_cases hlt : i < ms.length
  · obtain ⟨x, hx⟩ : ∃ x, ms[i]? = some x := ⟨_, List.getElem?_eq_getElem hlt⟩
    have hbx := DB_at h0 s m l
    obtain ⟨id, off, cap, rfl, hrd⟩ := IsInts.at (IsSl.ext hs (DB_ext h0 s m l)) hx
    have no : ¬ MateAt xs ms i → ¬ MatesOk xs ms := fun h1 h2 => h1 (h2 i hlt)
    by_cases c1 : x < 0
    · have hno := no fun h => by have := h.lt hx; omega
      repeat' (first | refine w_seq ?_ | refine w_seqN ?_ | refine w_seqR ?_ | refine w_blk ?_ | refine w_blkR ?_ | refine w_skip ?_ | refine w_ret ?_ | refine w_ops ?_ | refine w_opsD ?_ | refine d_one ?_ | refine d_nil ?_ | ((refine i_cond ?_); refine w_condT rfl ?_) | ((refine i_nil ?_); first | refine d_same ?_ | refine w_end1 rfl ?_ | refine w_end4 rfl rfl rfl rfl ?_) | ((refine i_cons ?_); first | refine k_fldA rfl ?_ | refine k_ldb rfl hbx rfl ?_ | refine k_idxA rfl rfl (by omega) ?_ | refine k_ld rfl hrd ?_ | refine k_skip rfl ?_ | refine k_mv rfl ?_ | refine k_pickT rfl rfl ?_ | refine k_mul rfl rfl (by omega) ?_ | refine k_lssT rfl rfl (by omega) ?_))
      exact w_roundR ⟨rfl, rfl, hno⟩
    by_cases c2 : 4 * (xs.length : Int) ≤ x
    · have hno := no fun h => by have := h.lt hx; omega
      repeat' (first | refine w_seq ?_ | refine w_seqN ?_ | refine w_seqR ?_ | refine w_blk ?_ | refine w_blkR ?_ | refine w_skip ?_ | refine w_ret ?_ | refine w_ops ?_ | refine w_opsD ?_ | refine d_one ?_ | refine d_nil ?_ | ((refine i_cond ?_); refine w_condT rfl ?_) | ((refine i_nil ?_); first | refine d_same ?_ | refine w_end1 rfl ?_ | refine w_end4 rfl rfl rfl rfl ?_) | ((refine i_cons ?_); first | refine k_fldA rfl ?_ | refine k_ldb rfl hbx rfl ?_ | refine k_idxA rfl rfl (by omega) ?_ | refine k_ld rfl hrd ?_ | refine k_skip rfl ?_ | refine k_want rfl ?_ | refine k_mv rfl ?_ | refine k_pickT rfl rfl ?_ | refine k_pickF rfl rfl ?_ | refine k_mul rfl rfl (by omega) ?_ | refine k_lssT rfl rfl (by omega) ?_ | refine k_lssF rfl rfl (by omega) ?_ | refine k_geqT rfl rfl (by omega) ?_))
      exact w_roundR ⟨rfl, rfl, hno⟩
    by_cases c3 : x = (i : Int)
    · have hno := no fun h => by have := h.lt hx; omega
      repeat' (first | refine w_seq ?_ | refine w_seqN ?_ | refine w_seqR ?_ | refine w_blk ?_ | refine w_blkR ?_ | refine w_skip ?_ | refine w_ret ?_ | refine w_ops ?_ | refine w_opsD ?_ | refine d_one ?_ | refine d_nil ?_ | ((refine i_cond ?_); refine w_condT rfl ?_) | ((refine i_nil ?_); first | refine d_same ?_ | refine w_end1 rfl ?_ | refine w_end4 rfl rfl rfl rfl ?_) | ((refine i_cons ?_); first | refine k_fldA rfl ?_ | refine k_ldb rfl hbx rfl ?_ | refine k_idxA rfl rfl (by omega) ?_ | refine k_ld rfl hrd ?_ | refine k_skip rfl ?_ | refine k_want rfl ?_ | refine k_mv rfl ?_ | refine k_pickT rfl rfl ?_ | refine k_pickF rfl rfl ?_ | refine k_mul rfl rfl (by omega) ?_ | refine k_lssT rfl rfl (by omega) ?_ | refine k_lssF rfl rfl (by omega) ?_ | refine k_geqF rfl rfl (by omega) ?_ | refine k_eqlT rfl rfl (by omega) ?_))
      exact w_roundR ⟨rfl, rfl, hno⟩
    obtain ⟨t, rfl⟩ : ∃ t : Nat, x = t := ⟨x.toNat, by omega⟩
    have htl : t < ms.length := by omega
    obtain ⟨y, hy⟩ : ∃ y, ms[t]? = some y := ⟨_, List.getElem?_eq_getElem htl⟩
    obtain ⟨id2, off2, cap2, e2, hrd2⟩ := IsInts.at (IsSl.ext hs (DB_ext h0 s (.slc id off ms.length cap) l)) hy
    simp only [SV.slc.injEq, true_and] at e2
    obtain ⟨rfl, rfl, rfl⟩ := e2
    by_cases c4 : y = (i : Int)
    · subst c4
      have hxs := IsSl.ext hx0 (DB_ext h0 s (.slc id off ms.length cap) l)
      have k1 := call34 hk34 (DB h0 s (.slc id off ms.length cap) l) s xs hxs i (by omega) (by omega)
      have k2 := call34 hk34 (DB h0 s (.slc id off ms.length cap) l) s xs hxs t (by omega) (by omega)
      have out : outB xs i = outB xs t → ¬ MatesOk xs ms := fun h1 => no fun h => (h.back hx hy).2 h1
      have out2 : outB xs i ≠ outB xs t → ∀ j, j < i + 1 → MateAt xs ms j := fun h1 j hj => by
        rcases Nat.lt_or_ge j i with h2 | h2
        · exact hall j h2
        · have : j = i := by omega
          subst this
          exact ⟨t, hx, htl, by omega, hy, h1⟩
      cases o1 : outB xs i <;> cases o2 : outB xs t <;> rw [o1] at k1 out out2 <;> rw [o2] at k2 out out2
      · have hno := out rfl
        repeat' (first | refine w_seq ?_ | refine w_seqN ?_ | refine w_seqR ?_ | refine w_blk ?_ | refine w_blkR ?_ | refine w_skip ?_ | refine w_ret ?_ | refine w_ops ?_ | refine w_opsD ?_ | refine d_one ?_ | refine d_nil ?_ | ((refine i_cond ?_); refine w_condT rfl ?_) | ((refine i_nil ?_); first | refine d_same ?_ | refine w_end1 rfl ?_ | refine w_end4 rfl rfl rfl rfl ?_) | ((refine i_cons ?_); first | refine k_fldA rfl ?_ | refine k_ldb rfl hbx rfl ?_ | refine k_idxA rfl rfl (by omega) ?_ | refine k_ld rfl hrd ?_ | refine k_ld rfl hrd2 ?_ | (refine k_call rfl k1 ?_; rintro v hh ⟨rfl, rfl⟩) | (refine k_call rfl k2 ?_; rintro v hh ⟨rfl, rfl⟩) | refine k_beq rfl rfl ?_ | refine k_want rfl ?_ | refine k_mv rfl ?_ | refine k_pickF rfl rfl ?_ | refine k_mul rfl rfl (by omega) ?_ | refine k_lssT rfl rfl (by omega) ?_ | refine k_lssF rfl rfl (by omega) ?_ | refine k_geqF rfl rfl (by omega) ?_ | refine k_eqlF rfl rfl (by omega) ?_ | refine k_neqF rfl rfl (by omega) ?_))
        exact w_roundR ⟨rfl, rfl, hno⟩
      · have hyes := out2 (by decide)
        repeat' (first | refine w_seq ?_ | refine w_seqN ?_ | refine w_blk ?_ | refine w_blkN ?_ | refine w_skip ?_ | refine w_ops ?_ | refine w_opsD ?_ | refine d_one ?_ | refine d_nil ?_ | ((refine i_cond ?_); first | refine w_condT rfl ?_ | refine w_condF rfl ?_) | ((refine i_nil ?_); first | refine d_same ?_ | refine w_end3 rfl rfl rfl ?_ | refine w_end4 rfl rfl rfl rfl ?_) | ((refine i_cons ?_); first | refine k_fldA rfl ?_ | refine k_ldb rfl hbx rfl ?_ | refine k_idxA rfl rfl (by omega) ?_ | refine k_ld rfl hrd ?_ | refine k_ld rfl hrd2 ?_ | (refine k_call rfl k1 ?_; rintro v hh ⟨rfl, rfl⟩) | (refine k_call rfl k2 ?_; rintro v hh ⟨rfl, rfl⟩) | refine k_beq rfl rfl ?_ | refine k_want rfl ?_ | refine k_mv rfl ?_ | refine k_pickF rfl rfl ?_ | refine k_add rfl rfl (by omega) ?_ | refine k_mul rfl rfl (by omega) ?_ | refine k_lssT rfl rfl (by omega) ?_ | refine k_lssF rfl rfl (by omega) ?_ | refine k_geqF rfl rfl (by omega) ?_ | refine k_eqlF rfl rfl (by omega) ?_ | refine k_neqF rfl rfl (by omega) ?_))
        exact w_roundN ⟨rfl, i + 1, by omega, hyes, rfl⟩ (by simp [cntV, Env.get]; omega)
      · have hyes := out2 (by decide)
        repeat' (first | refine w_seq ?_ | refine w_seqN ?_ | refine w_blk ?_ | refine w_blkN ?_ | refine w_skip ?_ | refine w_ops ?_ | refine w_opsD ?_ | refine d_one ?_ | refine d_nil ?_ | ((refine i_cond ?_); first | refine w_condT rfl ?_ | refine w_condF rfl ?_) | ((refine i_nil ?_); first | refine d_same ?_ | refine w_end3 rfl rfl rfl ?_ | refine w_end4 rfl rfl rfl rfl ?_) | ((refine i_cons ?_); first | refine k_fldA rfl ?_ | refine k_ldb rfl hbx rfl ?_ | refine k_idxA rfl rfl (by omega) ?_ | refine k_ld rfl hrd ?_ | refine k_ld rfl hrd2 ?_ | (refine k_call rfl k1 ?_; rintro v hh ⟨rfl, rfl⟩) | (refine k_call rfl k2 ?_; rintro v hh ⟨rfl, rfl⟩) | refine k_beq rfl rfl ?_ | refine k_want rfl ?_ | refine k_mv rfl ?_ | refine k_pickF rfl rfl ?_ | refine k_add rfl rfl (by omega) ?_ | refine k_mul rfl rfl (by omega) ?_ | refine k_lssT rfl rfl (by omega) ?_ | refine k_lssF rfl rfl (by omega) ?_ | refine k_geqF rfl rfl (by omega) ?_ | refine k_eqlF rfl rfl (by omega) ?_ | refine k_neqF rfl rfl (by omega) ?_))
        exact w_roundN ⟨rfl, i + 1, by omega, hyes, rfl⟩ (by simp [cntV, Env.get]; omega)
      · have hno := out rfl
        repeat' (first | refine w_seq ?_ | refine w_seqN ?_ | refine w_seqR ?_ | refine w_blk ?_ | refine w_blkR ?_ | refine w_skip ?_ | refine w_ret ?_ | refine w_ops ?_ | refine w_opsD ?_ | refine d_one ?_ | refine d_nil ?_ | ((refine i_cond ?_); refine w_condT rfl ?_) | ((refine i_nil ?_); first | refine d_same ?_ | refine w_end1 rfl ?_ | refine w_end4 rfl rfl rfl rfl ?_) | ((refine i_cons ?_); first | refine k_fldA rfl ?_ | refine k_ldb rfl hbx rfl ?_ | refine k_idxA rfl rfl (by omega) ?_ | refine k_ld rfl hrd ?_ | refine k_ld rfl hrd2 ?_ | (refine k_call rfl k1 ?_; rintro v hh ⟨rfl, rfl⟩) | (refine k_call rfl k2 ?_; rintro v hh ⟨rfl, rfl⟩) | refine k_beq rfl rfl ?_ | refine k_want rfl ?_ | refine k_mv rfl ?_ | refine k_pickF rfl rfl ?_ | refine k_mul rfl rfl (by omega) ?_ | refine k_lssT rfl rfl (by omega) ?_ | refine k_lssF rfl rfl (by omega) ?_ | refine k_geqF rfl rfl (by omega) ?_ | refine k_eqlF rfl rfl (by omega) ?_ | refine k_neqF rfl rfl (by omega) ?_))
        exact w_roundR ⟨rfl, rfl, hno⟩
    · have hno := no fun h => c4 (h.back hx hy).1
      repeat' (first | refine w_seq ?_ | refine w_seqN ?_ | refine w_seqR ?_ | refine w_blk ?_ | refine w_blkR ?_ | refine w_skip ?_ | refine w_ret ?_ | refine w_ops ?_ | refine w_opsD ?_ | refine d_one ?_ | refine d_nil ?_ | ((refine i_cond ?_); refine w_condT rfl ?_) | ((refine i_nil ?_); first | refine d_same ?_ | refine w_end1 rfl ?_ | refine w_end4 rfl rfl rfl rfl ?_) | ((refine i_cons ?_); first | refine k_fldA rfl ?_ | refine k_ldb rfl hbx rfl ?_ | refine k_idxA rfl rfl (by omega) ?_ | refine k_ld rfl hrd ?_ | refine k_ld rfl hrd2 ?_ | refine k_skip rfl ?_ | refine k_want rfl ?_ | refine k_mv rfl ?_ | refine k_pickT rfl rfl ?_ | refine k_pickF rfl rfl ?_ | refine k_mul rfl rfl (by omega) ?_ | refine k_lssT rfl rfl (by omega) ?_ | refine k_lssF rfl rfl (by omega) ?_ | refine k_geqF rfl rfl (by omega) ?_ | refine k_eqlF rfl rfl (by omega) ?_ | refine k_neqT rfl rfl (by omega) ?_))
      exact w_roundR ⟨rfl, rfl, hno⟩
  · repeat' (first | refine w_seq ?_ | refine w_seqN ?_ | refine w_seqX ?_ | refine w_exit ?_ | refine w_ops ?_ | ((refine i_cond ?_); refine w_condF rfl ?_) | ((refine i_nil ?_); refine w_end4 rfl rfl rfl rfl ?_) | ((refine i_cons ?_); first | refine k_mv rfl ?_ | refine k_mul rfl rfl (by omega) ?_ | refine k_lssF rfl rfl (by omega) ?_))
    exact w_roundX ⟨rfl, rfl, fun j hj => hall j (by omega), _, _, rfl⟩

theorem call13 (hk : HK 13 = none) (hk34 : HK 34 = none) (hk35 : HK 35 = none) (hk36 : HK 36 = none) (hk60 : HK 60 = none) (hk81 : HK 81 = none) (h0 : Heap) (s m : SV) (l : Int) (xs ms : List Int) (hx : IsInts h0 s xs) (hs : IsInts h0 m ms) :
    ∃ v h', Cal FT HK 13 [.agg [s, m, .int .i64 l]] h0 v h' ∧ Ext h0 h' ∧ ∃ b, v = .sc (.bool b) ∧ (b = true ↔ PV xs ms l) := by
  refine Cal.of (F := a13) hk rfl rfl ?_
  have hxl : lenS false s = some (xs.length : Int) := IsSl.len hx
  have hml : lenS false m = some (ms.length : Int) := IsSl.len hs
  have no : ∀ {h' : Heap}, Ext h0 h' → ¬ PV xs ms l → Ext h0 h' ∧ ∃ b, (AV.sc (SV.bool false)) = .sc (.bool b) ∧ (b = true ↔ PV xs ms l) := fun he hno => ⟨he, false, rfl, by simpa using hno⟩
  by_cases c1 : 64 < xs.length
  · have hno : ¬ PV xs ms l := fun h => by have := h.1.n64; omega
    repeat' (first | refine w_seq ?_ | refine w_seqN ?_ | refine w_seqR ?_ | refine w_ret ?_ | refine w_ops ?_ | ((refine i_cond ?_); refine w_condT rfl ?_) | ((refine i_nil ?_); first | refine w_end1 rfl ?_ | refine w_end2 rfl rfl ?_ | refine w_end3 rfl rfl rfl ?_) | ((refine i_cons ?_); first | (refine k_box rfl rfl ?_; intro h1 e1 l1 b1) | refine k_fldA rfl ?_ | refine k_ldb rfl b1 rfl ?_ | refine k_len rfl hxl ?_ | refine k_skip rfl ?_ | refine k_mv rfl ?_ | refine k_pickT rfl rfl ?_ | refine k_gtrT rfl rfl (by omega) ?_))
    exact ⟨.inr rfl, no e1 hno⟩
  by_cases c2 : ms.length = 4 * xs.length
  · by_cases c3 : l < 0
    · have hno : ¬ PV xs ms l := fun h => by have := h.1.l0; omega
      repeat' (first | refine w_seq ?_ | refine w_seqN ?_ | refine w_seqR ?_ | refine w_ret ?_ | refine w_ops ?_ | ((refine i_cond ?_); refine w_condT rfl ?_) | ((refine i_nil ?_); first | refine w_end1 rfl ?_ | refine w_end2 rfl rfl ?_ | refine w_end3 rfl rfl rfl ?_) | ((refine i_cons ?_); first | (refine k_box rfl rfl ?_; intro h1 e1 l1 b1) | refine k_fldA rfl ?_ | refine k_ldb rfl b1 rfl ?_ | refine k_len rfl hxl ?_ | refine k_len rfl hml ?_ | refine k_skip rfl ?_ | refine k_want rfl ?_ | refine k_mv rfl ?_ | refine k_pickT rfl rfl ?_ | refine k_pickF rfl rfl ?_ | refine k_mul rfl rfl (by omega) ?_ | refine k_lssT rfl rfl (by omega) ?_ | refine k_gtrF rfl rfl (by omega) ?_ | refine k_neqF rfl rfl (by omega) ?_))
      exact ⟨.inr rfl, no e1 hno⟩
    by_cases c4 : 64 < l
    · have hno : ¬ PV xs ms l := fun h => by have := h.1.l64; omega
      repeat' (first | refine w_seq ?_ | refine w_seqN ?_ | refine w_seqR ?_ | refine w_ret ?_ | refine w_ops ?_ | ((refine i_cond ?_); refine w_condT rfl ?_) | ((refine i_nil ?_); first | refine w_end1 rfl ?_ | refine w_end2 rfl rfl ?_ | refine w_end3 rfl rfl rfl ?_) | ((refine i_cons ?_); first | (refine k_box rfl rfl ?_; intro h1 e1 l1 b1) | refine k_fldA rfl ?_ | refine k_ldb rfl b1 rfl ?_ | refine k_len rfl hxl ?_ | refine k_len rfl hml ?_ | refine k_want rfl ?_ | refine k_mv rfl ?_ | refine k_pickF rfl rfl ?_ | refine k_mul rfl rfl (by omega) ?_ | refine k_lssF rfl rfl (by omega) ?_ | refine k_gtrT rfl rfl (by omega) ?_ | refine k_gtrF rfl rfl (by omega) ?_ | refine k_neqF rfl rfl (by omega) ?_))
      exact ⟨.inr rfl, no e1 hno⟩
    have hbx := DB_at h0 s m l
    have e1 := DB_ext h0 s m l
    refine w_seq (w_ops ?_)
    refine op_ok (v := some (.sc (.ptr h0.length 0))) (h' := DB h0 s m l) rfl rfl rfl ?_
    repeat' (first | refine w_seq ?_ | refine w_seqN ?_ | refine w_blk ?_ | refine w_skip ?_ | refine w_ops ?_ | ((refine i_cond ?_); refine w_condF rfl ?_) | ((refine i_nil ?_); first | refine w_end1 rfl ?_ | refine w_end2 rfl rfl ?_ | refine w_end3 rfl rfl rfl ?_) | ((refine i_cons ?_); first | refine k_fldA rfl ?_ | refine k_ldb rfl hbx rfl ?_ | refine k_len rfl hxl ?_ | refine k_len rfl hml ?_ | refine k_want rfl ?_ | refine k_mv rfl ?_ | refine k_pickF rfl rfl ?_ | refine k_mul rfl rfl (by omega) ?_ | refine k_lssF rfl rfl (by omega) ?_ | refine k_gtrF rfl rfl (by omega) ?_ | refine k_neqF rfl rfl (by omega) ?_))
    refine w_loop (I13a h0 s m l xs) (μ13a xs.length) (R13a h0 s m l xs) ⟨rfl, 0, Nat.zero_le _, by simp, rfl⟩ (round13a h0 s m l xs hx (by omega)) ?_
    rintro ex E' h' ⟨rfl, hR⟩
    cases ex with
    | nm => exact hR.elim
    | rt =>
      obtain ⟨hE, hno⟩ := hR
      repeat' (first | refine w_seqR ?_ | refine w_blkR ?_)
      exact ⟨.inr rfl, oK_t hE (no e1 fun h => hno h.1.sgn)⟩
    | ex z =>
      obtain ⟨rfl, hsg, t, rfl⟩ := hR
      repeat' (first | refine w_seq ?_ | refine w_seqN ?_ | refine w_blk ?_ | refine w_blkX ?_ | refine w_ops ?_ | ((refine i_nil ?_); refine w_end3 rfl rfl rfl ?_) | ((refine i_cons ?_); refine k_mv rfl ?_))
      refine w_loop (I13m h0 s m l xs ms) (cntV ms.length 5) (R13m h0 s m l xs ms) ⟨rfl, 0, Nat.zero_le _, fun j hj => by omega, rfl⟩ (round13m hk34 h0 s m l xs ms hx hs (by omega) c2) ?_
      rintro ex E' h2 ⟨rfl, hR⟩
      cases ex with
      | nm => exact hR.elim
      | rt =>
        obtain ⟨rfl, hno⟩ := hR
        repeat' (first | refine w_seqR ?_ | refine w_blkR ?_)
        exact ⟨.inr rfl, no e1 fun h => hno h.1.ok⟩
      | ex z =>
        obtain ⟨rfl, hok, a, f, rfl⟩ := hR
        have hF : Front xs ms l := ⟨by omega, c2, by omega, by omega, hsg, hok⟩
        have hm := hF.mates
        have hv := hF.inv
        have hmi := IsSl.ext hs e1
        have k1 := call35 hk35 (DB h0 s m l) m ms xs.length hmi hm (by omega)
        have eL : Ext (DB h0 s m l) (LB (DB h0 s m l) (labIter ms xs.length xs.length)) := ⟨_, rfl⟩
        have hbx2 := hbx.ext eL
        have k2 := call36 hk36 hk60 hk81 (LB (DB h0 s m l) (labIter ms xs.length xs.length)) m ms (IsSl.ext hmi eL) hm hv
        repeat' (first | refine w_seq ?_ | refine w_seqN ?_ | refine w_blk ?_ | refine w_blkX ?_ | refine w_ops ?_ | ((refine i_nil ?_); first | refine w_end3 rfl rfl rfl ?_ | refine w_end4 rfl rfl rfl rfl ?_) | ((refine i_cons ?_); first | refine k_fldA rfl ?_ | refine k_ldb rfl hbx rfl ?_ | refine k_ldb rfl hbx2 rfl ?_ | (refine k_call rfl k1 ?_; rintro v h3 ⟨rfl, rfl⟩) | (refine k_call rfl k2 ?_; rintro v h3 ⟨e3, o, fs, rfl, ho, hF2⟩) | refine k_mv rfl ?_))
        have hll := labIter_len ms xs.length xs.length
        have hlab : IsInts h3 (.slc (DB h0 s m l).length 0 xs.length (some xs.length)) (labIter ms xs.length xs.length) := IsSl.ext (IsInts.lit rfl hll) e3
        have hfl : (leasts ms ms.length).length ≤ 1000 := Nat.le_trans (leasts_le ms ms.length) hm.len
        refine w_loop (I13c h3 (.slc (DB h0 s m l).length 0 xs.length (some xs.length)) o (labIter ms xs.length xs.length) (leasts ms ms.length)) (μ13c (labIter ms xs.length xs.length).length) (R13c h3 (labIter ms xs.length xs.length) (leasts ms ms.length)) ⟨rfl, 0, Nat.zero_le _, fun b hb => by omega, by rw [hll]; rfl⟩
          (round13c _ h3 _ o (labIter ms xs.length xs.length) ms fs (leasts ms ms.length) hlab ho hF2 hfl (by omega) (by omega)) ?_
        rintro ex E' h4 ⟨rfl, hR⟩
        rw [hll] at hR
        have eF := (e1.trans eL).trans e3
        cases ex with
        | nm => exact hR.elim
        | rt =>
          obtain ⟨hE, hno⟩ := hR
          repeat' (first | refine w_seqR ?_ | refine w_blkR ?_)
          exact ⟨.inr rfl, oK_t hE (no eF fun h => hno h.2)⟩
        | ex z =>
          obtain ⟨rfl, hyes⟩ := hR
          repeat' (first | refine w_seq ?_ | refine w_seqN ?_ | refine w_blkX ?_ | refine w_ret ?_ | refine w_ops ?_ | ((refine i_nil ?_); refine w_end1 rfl ?_) | ((refine i_cons ?_); refine k_mv rfl ?_))
          exact ⟨.inr rfl, eF, true, rfl, ⟨fun _ => ⟨hF, hyes⟩, fun _ => rfl⟩⟩
  · have hno : ¬ PV xs ms l := fun h => c2 h.1.four
    repeat' (first | refine w_seq ?_ | refine w_seqN ?_ | refine w_seqR ?_ | refine w_ret ?_ | refine w_ops ?_ | ((refine i_cond ?_); refine w_condT rfl ?_) | ((refine i_nil ?_); first | refine w_end1 rfl ?_ | refine w_end2 rfl rfl ?_ | refine w_end3 rfl rfl rfl ?_) | ((refine i_cons ?_); first | (refine k_box rfl rfl ?_; intro h1 e1 l1 b1) | refine k_fldA rfl ?_ | refine k_ldb rfl b1 rfl ?_ | refine k_len rfl hxl ?_ | refine k_len rfl hml ?_ | refine k_skip rfl ?_ | refine k_want rfl ?_ | refine k_mv rfl ?_ | refine k_pickT rfl rfl ?_ | refine k_pickF rfl rfl ?_ | refine k_mul rfl rfl (by omega) ?_ | refine k_gtrF rfl rfl (by omega) ?_ | refine k_neqT rfl rfl (by omega) ?_))
    exact ⟨.inr rfl, no e1 hno⟩

end Go.Proofs.YtehnalbdfnmphaaDoor
