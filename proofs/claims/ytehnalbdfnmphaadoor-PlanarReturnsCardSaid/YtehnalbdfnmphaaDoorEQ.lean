/- A cell for what is read. -/
import Derived.Test.YtehnalbdfnmphaaDoorD1
import Derived.Test.YtehnalbdfnmphaaDoorT2
namespace Go.Proofs.YtehnalbdfnmphaaDoor
open Go.Ab
set_option linter.unusedVariables false
set_option linter.unusedSimpArgs false
attribute [local irreducible] wOps wA wSeq wBlk wRound wRoundI wOpsD

section
variable {FT : FuncId → Option AFun} {HK : FuncId → Option Hook} {E : Env} {h : Heap} {K : Env → Heap → Prop} {r : List AOp} {x : AO}
/-- A new cell of three values, and what is put there. -/
theorem k_newst3 {t : Nat} {a b c u v w : SV} (hx : ev (bindE (some t) (some (.sc (.ptr h.length 0))) E) x = some (.agg [u, v, w])) (hw : ∀ h1, Ext h h1 → Blk.At h1 h.length [u, v, w] → wOps FT HK r (bindE (some t) (some (.sc (.ptr h.length 0))) E) h1 K) :
    wOps FT HK (⟨some t, .new [a, b, c], none⟩ :: ⟨none, .st 3 (.t t) x, none⟩ :: r) E h K := by
  refine op_ok (v := some (.sc (.ptr h.length 0))) (h' := h ++ [.cells [a, b, c] true 0]) rfl rfl rfl ?_
  refine op_ok (v := none) (h' := h ++ [.cells [u, v, w] true 0]) rfl rfl ?_ (hw _ ⟨_, rfl⟩ (Blk.At.last h _ true 0))
  have h1 : evS (bindE (some t) (some (.sc (.ptr h.length 0))) E) (.t t) = some (.ptr h.length 0) := by simp [evS, ev, bindE, Env.get]
  simp [step1, h1, hx, AV.cells, writeN, splice]
end

theorem decR_PV {L : List Nat} {xs ms : List Int} {l : Nat} (h : decR L = .ok xs ms l) : PV xs ms (l : Nat) := by
  unfold decR at h
  split at h
  · cases h
  split at h
  · cases h
  split at h
  · cases h
  split at h
  · cases h
  split at h
  · cases h
  split at h
  · cases h
  · rename_i ms' us' k' hm
    split at h
    · rename_i hV
      cases h
      exact hV
    · cases h
end Go.Proofs.YtehnalbdfnmphaaDoor


namespace Go.Proofs.YtehnalbdfnmphaaDoor
open Go.Ab
set_option linter.unusedVariables false
set_option linter.unusedSimpArgs false
set_option maxRecDepth 20000
set_option maxHeartbeats 4000000
attribute [local irreducible] wOps wA wSeq wBlk wRound wRoundI wOpsD

/-! ### Two equal lists -/
def I44 (h0 : Heap) (a b : SV) (xs : List Int) (E : Env) (h : Heap) : Prop := h = h0 ∧ ∃ i : Nat, i ≤ xs.length ∧ E = [(0, some (.sc a)), (1, some (.sc b)), (12, some (.sc (.int .i64 (xs.length : Nat)))), (13, some (.sc (.int .i64 (i : Nat))))]
def R44 (h0 : Heap) (ex : Ex) (E : Env) (h : Heap) : Prop := h = h0 ∧ ex = .ex 0 ∧ ∃ x y z w u, E = [(0, x), (1, y), (12, z), (13, w), (14, u)]
theorem round44 (h0 : Heap) (a b : SV) (xs : List Int) (ha : IsInts h0 a xs) (hb : IsInts h0 b xs) (hl : xs.length ≤ 1000) (E : Env) (h : Heap) (hI : I44 h0 a b xs E h) :
    wA FT HKt b44L0 (E.keep [0, 1, 12, 13]) h (wRound (I44 h0 a b xs) (cntV xs.length 13) (cntV xs.length 13 E h) (R44 h0)) := by
  obtain ⟨rfl, i, hi, rfl⟩ := hI
  by_cases hlt : i < xs.length
  · obtain ⟨x, hx⟩ : ∃ x, xs[i]? = some x := ⟨_, List.getElem?_eq_getElem hlt⟩
    obtain ⟨id, off, cap, rfl, hr⟩ := IsInts.at ha hx
    obtain ⟨id2, off2, cap2, rfl, hr2⟩ := IsInts.at hb hx
    repeat' (first | refine w_seq ?_ | refine w_seqN ?_ | refine w_blk ?_ | refine w_blkN ?_ | refine w_skip ?_ | refine w_ops ?_ | refine w_opsD ?_ | refine d_one ?_ | refine d_nil ?_ | ((refine i_cond ?_); first | refine w_condT rfl ?_ | refine w_condF rfl ?_) | ((refine i_nil ?_); first | refine d_same ?_ | refine w_end4 rfl rfl rfl rfl ?_ | refine w_end5 rfl rfl rfl rfl rfl ?_) | ((refine i_cons ?_); first | refine k_idxA rfl rfl (by omega) ?_ | refine k_ld rfl hr ?_ | refine k_ld rfl hr2 ?_ | refine k_mv rfl ?_ | refine k_add rfl rfl (by omega) ?_ | refine k_lssT rfl rfl (by omega) ?_ | refine k_neqF rfl rfl (by omega) ?_))
    exact w_roundN ⟨rfl, i + 1, by omega, rfl⟩ (by simp [cntV, Env.get]; omega)
  · repeat' (first | refine w_seq ?_ | refine w_seqN ?_ | refine w_seqX ?_ | refine w_exit ?_ | refine w_ops ?_ | ((refine i_cond ?_); refine w_condF rfl ?_) | ((refine i_nil ?_); refine w_end5 rfl rfl rfl rfl rfl ?_) | ((refine i_cons ?_); refine k_lssF rfl rfl (by omega) ?_))
    exact w_roundX ⟨rfl, rfl, _, _, _, _, _, rfl⟩
theorem call44 (h0 : Heap) (a b : SV) (xs : List Int) (ha : IsInts h0 a xs) (hb : IsInts h0 b xs) (hl : xs.length ≤ 1000) : ∃ v h', Cal FT HKt 44 [.sc a, .sc b] h0 v h' ∧ IsB true h0 v h' := by
  refine Cal.of (F := a44) rfl rfl rfl ?_
  have hla : lenS false a = some (xs.length : Int) := IsSl.len ha
  have hlb : lenS false b = some (xs.length : Int) := IsSl.len hb
  repeat' (first | refine w_seq ?_ | refine w_seqN ?_ | refine w_blk ?_ | refine w_skip ?_ | refine w_ops ?_ | ((refine i_cond ?_); refine w_condF rfl ?_) | ((refine i_nil ?_); first | refine w_end2 rfl rfl ?_ | refine w_end3 rfl rfl rfl ?_ | refine w_end4 rfl rfl rfl rfl ?_) | ((refine i_cons ?_); first | refine k_len rfl hla ?_ | refine k_len rfl hlb ?_ | refine k_mv rfl ?_ | refine k_neqF rfl rfl (by omega) ?_))
  refine w_loop (I44 h0 a b xs) (cntV xs.length 13) (R44 h0) ⟨rfl, 0, by omega, rfl⟩ (round44 h0 a b xs ha hb hl) ?_
  rintro ex E' h' ⟨rfl, rfl, x, y, z, w, u, rfl⟩
  repeat' (first | refine w_seq ?_ | refine w_seqN ?_ | refine w_blkX ?_ | refine w_ret ?_ | refine w_ops ?_ | ((refine i_nil ?_); refine w_end1 rfl ?_) | ((refine i_cons ?_); refine k_mv rfl ?_))
  exact ⟨.inr rfl, rfl, rfl⟩
theorem call21 (h0 : Heap) (s m s' m' : SV) (l : Int) (xs ms : List Int) (i1 : IsInts h0 s xs) (i2 : IsInts h0 m ms) (i3 : IsInts h0 s' xs) (i4 : IsInts h0 m' ms) (hx : xs.length ≤ 1000) (hm : ms.length ≤ 1000) :
    ∃ v h', Cal FT HKt 21 [.agg [s, m, .int .i64 l], .agg [s', m', .int .i64 l]] h0 v h' ∧ v = .sc (.bool true) ∧ Ext h0 h' := by
  refine Cal.of (F := a21) rfl rfl rfl ?_
  have k1 := fun H (e : Ext h0 H) => call44 H s s' xs (IsSl.ext i1 e) (IsSl.ext i3 e) hx
  have k2 := fun H (e : Ext h0 H) => call44 H m m' ms (IsSl.ext i2 e) (IsSl.ext i4 e) hm
  repeat' (first | refine w_seq ?_ | refine w_seqN ?_ | refine w_ret ?_ | refine w_ops ?_ | ((refine i_nil ?_); first | refine w_end1 rfl ?_ | refine w_end2 rfl rfl ?_) | ((refine i_cons ?_); first | (have b1' := b1; refine k_box rfl rfl ?_; intro h2 e2 l2 b2; have b12 := b1.ext e2) | (refine k_box rfl rfl ?_; intro h1 e1 l1 b1) | refine k_fldA rfl ?_ | refine k_ldb rfl b12 rfl ?_ | refine k_ldb rfl b2 rfl ?_ | (refine k_call rfl (k1 h2 (e1.trans e2)) ?_; rintro v h3 ⟨rfl, rfl⟩) | (refine k_call rfl (k2 h3 (e1.trans e2)) ?_; rintro v h4 ⟨rfl, rfl⟩) | refine k_want rfl ?_ | refine k_mv rfl ?_ | refine k_pickT rfl rfl ?_ | refine k_eqlT rfl rfl (by omega) ?_))
  exact ⟨.inr rfl, rfl, e1.trans e2⟩

end Go.Proofs.YtehnalbdfnmphaaDoor

