/- A cell for what is read. -/
import Derived.Test.YtehnalbdfnmphaaDoorD3
import Derived.Test.YtehnalbdfnmphaaDoorF1
import Derived.Test.YtehnalbdfnmphaaDoorRP2
import Derived.Test.YtehnalbdfnmphaaDoorF4
import Derived.Test.YtehnalbdfnmphaaDoorT5
import Derived.Test.YtehnalbdfnmphaaDoorD5
namespace Go.Proofs.YtehnalbdfnmphaaDoor
open Go.Ab
set_option linter.unusedVariables false
set_option linter.unusedSimpArgs false
attribute [local irreducible] wOps wA wSeq wBlk wRound wRoundI wOpsD

section
variable {FT : FuncId → Option AFun} {HK : FuncId → Option Hook} {E : Env} {h : Heap} {K : Env → Heap → Prop} {r : List AOp} {x : AO}
/-- A new cell of three values, and what is put there. -/
theorem k_newst3 {t : Nat} {a b c u v w : SV} (hx : ev (bindE (some t) (some (.sc (.ptr h.length 0))) E) x = some (.agg [u, v, w])) (hw : ∀ h1, Ext h h1 → Blk.At h1 h.length [u, v, w] → wOps FT HK r (bindE (some t) (some (.sc (.ptr h.length 0))) E) h1 K) :
    wOps FT HK (⟨some t, .new [a, b, c], none⟩ :: ⟨none, .st 3 (.t t) x, none⟩ :: r) E h K := by
  refine op_ok (v := some (.sc (.ptr h.length 0))) (h' := h ++ [.cells [a, b, c] true 0]) rfl rfl rfl ?_
  refine op_ok (v := none) (h' := h ++ [.cells [u, v, w] true 0]) rfl rfl ?_ (hw _ ⟨_, rfl⟩ (Blk.At.last h _ true 0))
  have h1 : evS (bindE (some t) (some (.sc (.ptr h.length 0))) E) (.t t) = some (.ptr h.length 0) := by simp [evS, ev, bindE, Env.get]
  simp [step1, h1, hx, AV.cells, writeN, splice]
end

theorem decR_PV {L : List Nat} {xs ms : List Int} {l : Nat} (h : decR L = .ok xs ms l) : PV xs ms (l : Nat) := by
  unfold decR at h
  split at h
  · cases h
  split at h
  · cases h
  split at h
  · cases h
  split at h
  · cases h
  split at h
  · cases h
  split at h
  · cases h
  · rename_i ms' us' k' hm
    split at h
    · rename_i hV
      cases h
      exact hV
    · cases h
end Go.Proofs.YtehnalbdfnmphaaDoor


namespace Go.Proofs.YtehnalbdfnmphaaDoor
open Go.Ab
set_option linter.unusedVariables false
set_option linter.unusedSimpArgs false
set_option maxRecDepth 20000
set_option maxHeartbeats 4000000
attribute [local irreducible] wOps wA wSeq wBlk wRound wRoundI wOpsD

/-! ### Two equal lists -/
def I44 (h0 : Heap) (a b : SV) (xs : List Int) (E : Env) (h : Heap) : Prop := h = h0 ∧ ∃ i : Nat, i ≤ xs.length ∧ E = [(0, some (.sc a)), (1, some (.sc b)), (12, some (.sc (.int .i64 (xs.length : Nat)))), (13, some (.sc (.int .i64 (i : Nat))))]
def R44 (h0 : Heap) (ex : Ex) (E : Env) (h : Heap) : Prop := h = h0 ∧ ex = .ex 0 ∧ ∃ x y z w u, E = [(0, x), (1, y), (12, z), (13, w), (14, u)]
end Go.Proofs.YtehnalbdfnmphaaDoor



namespace Go.Proofs.YtehnalbdfnmphaaDoor
open Go.Ab
set_option linter.unusedVariables false
set_option linter.unusedSimpArgs false
set_option maxRecDepth 20000
set_option maxHeartbeats 4000000
attribute [local irreducible] wOps wA wSeq wBlk wRound wRoundI wOpsD

theorem parse_ok {h : Heap} {s : List UInt8} {xs ms : List Int} {l : Nat} (hp : parR s = .ok xs ms l) : ∃ v h', Cal FT HKt 22 [.sc (tb s)] h v h' ∧ h' = h ++ [EX xs, EX ms] ∧
    v = .tup [.agg [.slc (h.length + 0) 0 xs.length (some xs.length), .slc (h.length + 1) 0 ms.length (some ms.length), .int .i64 (l : Nat)], .sc (.int .i64 0)] :=
  ⟨_, _, Cal.hook (g := parseHook) rfl (by
    have e : (tb s : SV) = .str ⟨s.toArray⟩ := rfl
    simp only [parseHook, e, tb_data, hp]), rfl, rfl⟩
theorem parse_err {h : Heap} {s : List UInt8} {e : Nat} (hp : parR s = .err e) : ∃ v h', Cal FT HKt 22 [.sc (tb s)] h v h' ∧ h' = h ∧ v = .tup [.agg [.nilS, .nilS, .int .i64 0], .sc (.int .i64 (e : Nat))] :=
  ⟨_, _, Cal.hook (g := parseHook) rfl (by
    have e : (tb s : SV) = .str ⟨s.toArray⟩ := rfl
    simp only [parseHook, e, tb_data, hp]), rfl, rfl⟩
theorem labs_R {xs ms : List Int} {l : Int} (hF : Front xs ms l) : LabR (labs xs ms) (4 * xs.length) := fun g hg => by
  have := labs_range hF (g := g) (by rw [hF.four]; exact hg)
  omega
theorem labs_len {xs ms : List Int} {l : Int} (hF : Front xs ms l) : (labs xs ms).length = 4 * xs.length := by
  rw [← hF.four]; exact lbK_len _ _ _
theorem txt_len {xs ms : List Int} {l : Int} (hF : Front xs ms l) : (txt xs (labs xs ms) l).length ≤ 65536 := by
  have h1 := txtK_len (xs := xs) (labs_mod hF) xs.length
  have h2 := itoa_len (x := l) (by have := hF.l0; have := hF.l64; omega)
  have h3 := hF.n64
  unfold txt
  simp only [List.length_append, List.length_cons, List.length_nil, loopsT]
  omega
end Go.Proofs.YtehnalbdfnmphaaDoor



namespace Go.Proofs.YtehnalbdfnmphaaDoor
open Go.Ab
set_option linter.unusedVariables false
set_option linter.unusedSimpArgs false
set_option maxRecDepth 20000
set_option maxHeartbeats 4000000
attribute [local irreducible] wOps wA wSeq wBlk wRound wRoundI wOpsD

/-! ### Two equal lists -/
def I41 (h0 : Heap) (a b : SV) (xs : List Int) (E : Env) (h : Heap) : Prop := h = h0 ∧ ∃ i : Nat, i ≤ xs.length ∧ E = [(0, some (.sc a)), (1, some (.sc b)), (5, some (.sc (.int .i64 (i : Nat))))]
def R41 (h0 : Heap) (ex : Ex) (E : Env) (h : Heap) : Prop := h = h0 ∧ ex = .ex 0 ∧ ∃ x y z w, E = [(0, x), (1, y), (5, z), (14, w)]
theorem round41 (h0 : Heap) (a b : SV) (xs : List Int) (ha : IsInts h0 a xs) (hb : IsInts h0 b xs) (hl : xs.length ≤ 1000) (E : Env) (h : Heap) (hI : I41 h0 a b xs E h) :
    wA FT HKt b41L0 (E.keep [0, 1, 5]) h (wRound (I41 h0 a b xs) (cntV xs.length 5) (cntV xs.length 5 E h) (R41 h0)) := by
  obtain ⟨rfl, i, hi, rfl⟩ := hI
  have hla : lenS false a = some (xs.length : Int) := IsSl.len ha
  by_cases hlt : i < xs.length
  · obtain ⟨x, hx⟩ : ∃ x, xs[i]? = some x := ⟨_, List.getElem?_eq_getElem hlt⟩
    obtain ⟨id, off, cap, rfl, hr⟩ := IsInts.at ha hx
    obtain ⟨id2, off2, cap2, rfl, hr2⟩ := IsInts.at hb hx
    repeat' (first | refine w_seq ?_ | refine w_seqN ?_ | refine w_blk ?_ | refine w_blkN ?_ | refine w_skip ?_ | refine w_ops ?_ | refine w_opsD ?_ | refine d_one ?_ | refine d_nil ?_ | ((refine i_cond ?_); first | refine w_condT rfl ?_ | refine w_condF rfl ?_) | ((refine i_nil ?_); first | refine d_same ?_ | refine w_end3 rfl rfl rfl ?_ | refine w_end4 rfl rfl rfl rfl ?_) | ((refine i_cons ?_); first | refine k_len rfl hla ?_ | refine k_idxA rfl rfl (by omega) ?_ | refine k_ld rfl hr ?_ | refine k_ld rfl hr2 ?_ | refine k_mv rfl ?_ | refine k_add rfl rfl (by omega) ?_ | refine k_lssT rfl rfl (by omega) ?_ | refine k_neqF rfl rfl (by omega) ?_))
    exact w_roundN ⟨rfl, i + 1, by omega, rfl⟩ (by simp [cntV, Env.get]; omega)
  · repeat' (first | refine w_seq ?_ | refine w_seqN ?_ | refine w_seqX ?_ | refine w_exit ?_ | refine w_ops ?_ | ((refine i_cond ?_); refine w_condF rfl ?_) | ((refine i_nil ?_); refine w_end4 rfl rfl rfl rfl ?_) | ((refine i_cons ?_); first | refine k_len rfl hla ?_ | refine k_mv rfl ?_ | refine k_lssF rfl rfl (by omega) ?_))
    exact w_roundX ⟨rfl, rfl, _, _, _, _, rfl⟩
theorem call41 (h0 : Heap) (a b : SV) (xs : List Int) (ha : IsInts h0 a xs) (hb : IsInts h0 b xs) (hl : xs.length ≤ 1000) : ∃ v h', Cal FT HKt 41 [.sc a, .sc b] h0 v h' ∧ IsB true h0 v h' := by
  refine Cal.of (F := a41) rfl rfl rfl ?_
  have hla : lenS false a = some (xs.length : Int) := IsSl.len ha
  have hlb : lenS false b = some (xs.length : Int) := IsSl.len hb
  repeat' (first | refine w_seq ?_ | refine w_seqN ?_ | refine w_blk ?_ | refine w_skip ?_ | refine w_ops ?_ | ((refine i_cond ?_); refine w_condF rfl ?_) | ((refine i_nil ?_); first | refine w_end2 rfl rfl ?_ | refine w_end3 rfl rfl rfl ?_) | ((refine i_cons ?_); first | refine k_len rfl hla ?_ | refine k_len rfl hlb ?_ | refine k_mv rfl ?_ | refine k_neqF rfl rfl (by omega) ?_))
  refine w_loop (I41 h0 a b xs) (cntV xs.length 5) (R41 h0) ⟨rfl, 0, by omega, rfl⟩ (round41 h0 a b xs ha hb hl) ?_
  rintro ex E' h' ⟨rfl, rfl, x, y, z, w, rfl⟩
  repeat' (first | refine w_seq ?_ | refine w_seqN ?_ | refine w_blkX ?_ | refine w_ret ?_ | refine w_ops ?_ | ((refine i_nil ?_); refine w_end1 rfl ?_) | ((refine i_cons ?_); refine k_mv rfl ?_))
  exact ⟨.inr rfl, rfl, rfl⟩
theorem call19 (h0 : Heap) (s m s' m' : SV) (l : Int) (xs ms : List Int) (i1 : IsInts h0 s xs) (i2 : IsInts h0 m ms) (i3 : IsInts h0 s' xs) (i4 : IsInts h0 m' ms) (hx : xs.length ≤ 1000) (hm : ms.length ≤ 1000) :
    ∃ v h', Cal FT HKt 19 [.agg [s, m, .int .i64 l], .agg [s', m', .int .i64 l]] h0 v h' ∧ v = .sc (.bool true) := by
  refine Cal.of (F := a19) rfl rfl rfl ?_
  have k1 := fun H (e : Ext h0 H) => call41 H s s' xs (IsSl.ext i1 e) (IsSl.ext i3 e) hx
  have k2 := fun H (e : Ext h0 H) => call41 H m m' ms (IsSl.ext i2 e) (IsSl.ext i4 e) hm
  repeat' (first | refine w_seq ?_ | refine w_seqN ?_ | refine w_ret ?_ | refine w_ops ?_ | ((refine i_nil ?_); first | refine w_end1 rfl ?_ | refine w_end2 rfl rfl ?_) | ((refine i_cons ?_); first | (have b1' := b1; refine k_box rfl rfl ?_; intro h2 e2 l2 b2; have b12 := b1.ext e2) | (refine k_box rfl rfl ?_; intro h1 e1 l1 b1) | refine k_fldA rfl ?_ | refine k_ldb rfl b12 rfl ?_ | refine k_ldb rfl b2 rfl ?_ | (refine k_call rfl (k1 h2 (e1.trans e2)) ?_; rintro v h3 ⟨rfl, rfl⟩) | (refine k_call rfl (k2 h3 (e1.trans e2)) ?_; rintro v h4 ⟨rfl, rfl⟩) | refine k_want rfl ?_ | refine k_mv rfl ?_ | refine k_pickT rfl rfl ?_ | refine k_eqlT rfl rfl (by omega) ?_))
  exact ⟨.inr rfl, rfl⟩

def DR.x : DR → List Int | .err _ => [] | .ok xs _ _ => xs
def DR.m : DR → List Int | .err _ => [] | .ok _ ms _ => ms
def DR.l : DR → Int | .err _ => 0 | .ok _ _ l => (l : Nat)
def DR.e : DR → Int | .err e => (e : Nat) | .ok _ _ _ => 0
theorem DecV.ext {r : DR} {h0 h' : Heap} {v : AV} (hd : DecV r h0 v h') : Ext h0 h' := by
  obtain ⟨a, -⟩ := hd; exact a
/-- What was read, in one form. -/
theorem DecV.un {r : DR} {h0 h' : Heap} {v : AV} (hd : DecV r h0 v h') : ∃ s m, v = .tup [.agg [s, m, .int .i64 r.l], .sc (.int .i64 r.e)] ∧ IsInts h' s r.x ∧ IsInts h' m r.m := by
  obtain ⟨he, hv⟩ := hd
  cases r with
  | err e => exact ⟨.nilS, .nilS, hv, .inl ⟨rfl, rfl, rfl⟩, .inl ⟨rfl, rfl, rfl⟩⟩
  | ok xs ms l => exact hv
theorem decR_len (L : List Nat) : (decR L).x.length ≤ 1000 ∧ (decR L).m.length ≤ 1000 := by
  cases h : decR L with
  | err e => exact ⟨Nat.zero_le _, Nat.zero_le _⟩
  | ok xs ms l =>
    have hV := decR_PV h
    have h1 := hV.1.n64
    have h2 := hV.1.four
    exact ⟨by simp only [DR.x]; omega, by simp only [DR.m]; omega⟩

end Go.Proofs.YtehnalbdfnmphaaDoor

