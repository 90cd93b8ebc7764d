/- The reference's Decode: its loops. -/
import Derived.Test.YtehnalbdfnmphaaDoorD3
import Derived.Test.YtehnalbdfnmphaaDoorAb38
namespace Go.Proofs.YtehnalbdfnmphaaDoor
open Go.Ab
set_option linter.unusedVariables false
set_option linter.unusedSimpArgs false
set_option maxRecDepth 20000
set_option maxHeartbeats 4000000
attribute [local irreducible] wOps wA wSeq wBlk wRound wRoundI wOpsD
variable {HK : FuncId → Option Hook}

theorem call40 (h0 : Heap) (s m : SV) (l : Int) (xs ms : List Int) (hx : IsInts h0 s xs) (hs : IsInts h0 m ms) :
    ∃ v h', Cal FT HKt 40 [.agg [s, m, .int .i64 l]] h0 v h' ∧ Ext h0 h' ∧ ∃ b, v = .sc (.bool b) ∧ (b = true ↔ PV xs ms l) := by
  refine Cal.of (F := a40) rfl rfl rfl ?_
  repeat' (first | refine w_seq ?_ | refine w_seqN ?_ | refine w_seqX ?_ | refine w_seqR ?_ | refine w_blk ?_ | refine w_blkN ?_ | refine w_blkX ?_ | refine w_blkR ?_ | refine w_skip ?_ | refine w_ret ?_ | refine w_exit ?_ | refine w_ops ?_ | refine w_opsD ?_ | refine d_one ?_ | refine d_nil ?_ | (refine w_blkY ?_ ?_; rfl) | ((refine i_cond ?_); first | refine w_condT rfl ?_ | refine w_condF rfl ?_) | ((refine i_nil ?_); first | refine d_same ?_ | refine d_ord ?_ | refine d_ext ⟨_, rfl⟩ ?_ | refine d_ext (extA _ _ _) ?_ | refine d_ext (by assumption) ?_ | refine w_end0 ?_ | refine w_end1 rfl ?_ | refine w_end2 rfl rfl ?_ | refine w_end3 rfl rfl rfl ?_ | refine w_end4 rfl rfl rfl rfl ?_ | refine w_end5 rfl rfl rfl rfl rfl ?_ | refine w_end6 rfl rfl rfl rfl rfl rfl ?_ | refine w_end7 rfl rfl rfl rfl rfl rfl rfl ?_ | refine w_end8 rfl rfl rfl rfl rfl rfl rfl rfl ?_ | refine w_end9 rfl rfl rfl rfl rfl rfl rfl rfl rfl ?_ | refine w_end10 rfl rfl rfl rfl rfl rfl rfl rfl rfl rfl ?_ | refine w_end11 rfl rfl rfl rfl rfl rfl rfl rfl rfl rfl rfl ?_ | refine w_end12 rfl rfl rfl rfl rfl rfl rfl rfl rfl rfl rfl rfl ?_ | refine w_end13 rfl rfl rfl rfl rfl rfl rfl rfl rfl rfl rfl rfl rfl ?_ | refine w_end14 rfl rfl rfl rfl rfl rfl rfl rfl rfl rfl rfl rfl rfl rfl ?_ | refine w_end15 rfl rfl rfl rfl rfl rfl rfl rfl rfl rfl rfl rfl rfl rfl rfl ?_ | refine w_end16 rfl rfl rfl rfl rfl rfl rfl rfl rfl rfl rfl rfl rfl rfl rfl rfl ?_) | ((refine i_cons ?_); first | (refine k_box rfl rfl ?_; intro h1 e1 l1 b1; have k1 := valR h1 s m l xs ms (IsSl.ext hx e1) (IsSl.ext hs e1)) | refine k_ldA rfl b1 rfl ?_ | (refine k_call rfl k1 ?_; rintro v h2 ⟨e2, r, rfl, hr⟩) | refine k_skip rfl ?_ | refine k_skipU rfl ?_ | refine k_want rfl ?_ | refine k_mv rfl ?_ | refine k_pickT rfl rfl ?_ | refine k_pickF rfl rfl ?_ | refine k_notT rfl ?_ | refine k_notF rfl ?_ | refine k_add rfl rfl (by omega) ?_ | refine k_sub rfl rfl (by omega) ?_ | refine k_mul rfl rfl (by omega) ?_ | refine k_neg rfl (by omega) ?_ | refine k_quo rfl rfl (by omega) ?_ | refine k_rem rfl rfl (by omega) ?_ | refine k_conv rfl (by omega) ?_ | refine k_max rfl rfl ?_ | refine k_min rfl rfl ?_ | refine k_lssT rfl rfl (by omega) ?_ | refine k_lssF rfl rfl (by omega) ?_ | refine k_lss rfl rfl (fun hc => ?_) (fun hc => ?_) | refine k_leqT rfl rfl (by omega) ?_ | refine k_leqF rfl rfl (by omega) ?_ | refine k_leq rfl rfl (fun hc => ?_) (fun hc => ?_) | refine k_gtrT rfl rfl (by omega) ?_ | refine k_gtrF rfl rfl (by omega) ?_ | refine k_gtr rfl rfl (fun hc => ?_) (fun hc => ?_) | refine k_geqT rfl rfl (by omega) ?_ | refine k_geqF rfl rfl (by omega) ?_ | refine k_geq rfl rfl (fun hc => ?_) (fun hc => ?_) | refine k_eqlT rfl rfl (by omega) ?_ | refine k_eqlF rfl rfl (by omega) ?_ | refine k_eql rfl rfl (fun hc => ?_) (fun hc => ?_) | refine k_neqT rfl rfl (by omega) ?_ | refine k_neqF rfl rfl (by omega) ?_ | refine k_neq rfl rfl (fun hc => ?_) (fun hc => ?_) | refine k_len rfl rfl ?_ | refine k_ok rfl rfl ?_))
  exact ⟨.inr rfl, e1.trans e2, r, rfl, hr⟩

theorem ownRe {B B' T : Heap} {s : SV} {vs : List SV} (ho : Own B (B ++ T) s vs) (hl : B'.length = B.length) : Own B' (B' ++ T) s vs := by
  rcases ho with h | ⟨id, cap, cs, e1, e2, e3, e4⟩
  · exact .inl h
  · refine .inr ⟨id, cap, cs, e1, by rw [hl]; exact e2, ?_, e4⟩
    rw [List.getElem?_append_right (by omega)] at e3 ⊢
    rw [hl]; exact e3

abbrev Dr (h0 : Heap) (n : Nat) (l : Int) (sg : SV) : Blk := .cells [sg, .slc (h0.length + 1) 0 (4 * n) (some (4 * n)), .int .i64 l] true 0
abbrev BR (h0 : Heap) (n : Nat) (l : Int) (ms : List Int) (sg : SV) : Heap := [R0, EX ms, Dr h0 n l sg]

/-! ### The signs -/
def I18a (h0 : Heap) (s : SV) (L : List Nat) (n : Nat) (l : Int) (E : Env) (h : Heap) : Prop := ∃ (c : Nat) (T : Heap) (sg : SV), c ≤ 8 * ((n + 7) / 8) ∧ (∀ i, i < c → n ≤ i → bitN L i ≠ 1) ∧
  h = h0 ++ (BR h0 n l (List.replicate (4 * n) 0) sg ++ T) ∧ Own (h0 ++ BR h0 n l (List.replicate (4 * n) 0) sg) ((h0 ++ BR h0 n l (List.replicate (4 * n) 0) sg) ++ T) sg (((sgs L n).take c).map (.int .i64)) ∧
  E = [(0, some (.sc s)), (2, some (.sc (.ptr (h0.length + 0) 0))), (4, some (.sc (.int .i64 (n : Nat)))), (5, some (.sc (.int .i64 ((n + 7) / 8 : Nat)))), (6, some (.sc (.ptr (h0.length + 2) 0))), (7, some (.sc (.int .i64 (c : Nat))))]
def R18a (h0 : Heap) (s : SV) (L : List Nat) (n : Nat) (l : Int) (ex : Ex) (E : Env) (h : Heap) : Prop := match ex with
  | .rt => ¬ Pad L n ∧ (∃ T, h = h0 ++ R0 :: T) ∧ E = [(2, some (.sc (.ptr (h0.length + 0) 0))), (3, some (.sc (.int .i64 3)))]
  | .ex z => z = 0 ∧ Pad L n ∧ ∃ (T : Heap) (sg : SV), h = h0 ++ (BR h0 n l (List.replicate (4 * n) 0) sg ++ T) ∧ Own (h0 ++ BR h0 n l (List.replicate (4 * n) 0) sg) ((h0 ++ BR h0 n l (List.replicate (4 * n) 0) sg) ++ T) sg ((sgs L n).map (.int .i64)) ∧ ∃ x y,
    E = [(0, some (.sc s)), (2, some (.sc (.ptr (h0.length + 0) 0))), (4, some (.sc (.int .i64 (n : Nat)))), (5, some (.sc (.int .i64 ((n + 7) / 8 : Nat)))), (6, some (.sc (.ptr (h0.length + 2) 0))), (7, x), (63, y)]
  | .nm => False
end Go.Proofs.YtehnalbdfnmphaaDoor


namespace Go.Proofs.YtehnalbdfnmphaaDoor
open Go.Ab
set_option linter.unusedVariables false
set_option linter.unusedSimpArgs false
set_option maxRecDepth 20000
set_option maxHeartbeats 4000000
attribute [local irreducible] wOps wA wSeq wBlk wRound wRoundI wOpsD
variable {HK : FuncId → Option Hook}

abbrev BU (h0 : Heap) (n : Nat) (l : Int) (ms : List Int) (sg : SV) (T : Heap) (us : List Bool) : Heap := BR h0 n l ms sg ++ T ++ [SN us]
theorem BU_at {h0 : Heap} {n : Nat} {l : Int} {ms : List Int} {sg : SV} {T : Heap} {us : List Bool} : (BU h0 n l ms sg T us)[3 + T.length]? = some (SN us) := by
  simp only [BU, BR]
  rw [List.getElem?_append_right (by simp; omega)]
  simp only [List.length_append, List.length_cons, List.length_nil]
  rw [show 3 + T.length - (0 + 1 + 1 + 1 + T.length) = 0 by omega]; rfl
theorem BU_set {h0 : Heap} {n : Nat} {l : Int} {ms : List Int} {sg : SV} {T : Heap} {us us' : List Bool} : (BU h0 n l ms sg T us).set (3 + T.length) (SN us') = BU h0 n l ms sg T us' := by
  simp only [BU, BR]
  rw [List.set_append_right _ _ (by simp; omega)]
  congr 1
  simp only [List.length_append, List.length_cons, List.length_nil]
  rw [show 3 + T.length - (0 + 1 + 1 + 1 + T.length) = 0 by omega]; rfl
theorem BU_wr {h0 : Heap} {n : Nat} {l : Int} {ms : List Int} {sg : SV} {T : Heap} {us : List Bool} {i : Nat} (hi : i < us.length) {j : Int} (hj : j = (i : Nat)) : writeN (BU h0 n l ms sg T us) (3 + T.length) (0 + j.toNat * 1) [.bool true] = some (BU h0 n l ms sg T (us.set i true)) := by
  rw [wrB BU_at hi hj, BU_set]
theorem BU_sg {h0 : Heap} {n : Nat} {l : Int} {ms ms' : List Int} {sg : SV} {T U : Heap} {xs : List Int} (ho : Own (h0 ++ BR h0 n l ms sg) ((h0 ++ BR h0 n l ms sg) ++ T) sg (xs.map (.int .i64))) : IsInts (h0 ++ (BR h0 n l ms' sg ++ T ++ U)) sg xs := by
  have h1 := ownRe (B' := h0 ++ BR h0 n l ms' sg) ho (by simp)
  have h2 := h1.ids
  have := IsSl.ext h2 (⟨U, rfl⟩ : Ext _ (((h0 ++ BR h0 n l ms' sg) ++ T) ++ U))
  rw [List.append_assoc, List.append_assoc] at this
  rw [List.append_assoc]
  exact this

def I18m (h0 : Heap) (s sg : SV) (xs : List Int) (V : List Nat) (T : Heap) (n st : Nat) (l : Int) (E : Env) (h : Heap) : Prop := ∃ (c k : Nat) (ms : List Int) (us : List Bool), c ≤ 4 * n ∧ mt xs (4 * n) V c = some (ms, us, k) ∧
  h = h0 ++ BU h0 n l ms sg T us ∧
  E = [(0, some (.sc s)), (2, some (.sc (.ptr (h0.length + 0) 0))), (4, some (.sc (.int .i64 (n : Nat)))), (6, some (.sc (.ptr (h0.length + 2) 0))), (9, some (.sc (.slc (h0.length + (3 + T.length)) 0 (4 * n) (some (4 * n))))), (10, some (.sc (.int .i64 (st + k : Nat)))), (11, some (.sc (.int .i64 (c : Nat))))]
def R18m (h0 : Heap) (sg : SV) (xs : List Int) (V : List Nat) (T : Heap) (n : Nat) (l : Int) (ex : Ex) (E : Env) (h : Heap) : Prop := match ex with
  | .rt => mt xs (4 * n) V (4 * n) = none ∧ (∃ U, h = h0 ++ R0 :: U) ∧ E = [(2, some (.sc (.ptr (h0.length + 0) 0))), (3, some (.sc (.int .i64 3)))]
  | .ex z => z = 2 ∧ ∃ ms us k, mt xs (4 * n) V (4 * n) = some (ms, us, k) ∧ h = h0 ++ BU h0 n l ms sg T us ∧ ∃ a b c x y z,
    E = [(0, a), (2, some (.sc (.ptr (h0.length + 0) 0))), (4, b), (6, some (.sc (.ptr (h0.length + 2) 0))), (9, c), (10, x), (11, y), (99, z)]
  | .nm => False
theorem BU_sg3 {h0 : Heap} {n : Nat} {l : Int} {ms : List Int} {sg : SV} {T V U : Heap} {x y z : Blk} {xs : List Int} (ho : Own (h0 ++ BR h0 n l ms sg) ((h0 ++ BR h0 n l ms sg) ++ T) sg (xs.map (.int .i64))) : IsInts (h0 ++ (x :: y :: z :: (T ++ V ++ U))) sg xs := by
  have h1 := ownRe (B' := h0 ++ [x, y, z]) ho (by simp)
  have h2 := IsSl.ext h1.ids (⟨V ++ U, rfl⟩ : Ext _ (((h0 ++ [x, y, z]) ++ T) ++ (V ++ U)))
  rw [List.append_assoc, List.append_assoc, ← List.append_assoc T V U] at h2
  exact h2
theorem oK_cell3 {h0 : Heap} {L : Heap} {t u : Nat} {e : Int} {s m l : SV} {E : Env} {Q : AV → Prop} (h1 : E.get t = some (.sc (.ptr (h0.length + 0) 0))) (h2 : E.get u = some (.sc (.int .i64 e))) (hr : readN L 0 0 3 = some [s, m, l]) (hQ : Q (.tup [.agg [s, m, l], .sc (.int .i64 e)])) :
    oK (resultsA [.cell t 3 true, .t u] E (h0 ++ L)) Q := oK_cellt h1 (by rw [rdA]; exact hr) h2 hQ
end Go.Proofs.YtehnalbdfnmphaaDoor

