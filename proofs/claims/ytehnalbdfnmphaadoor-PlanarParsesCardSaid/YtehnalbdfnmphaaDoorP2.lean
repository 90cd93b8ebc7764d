/- planar.crossing: its contract. -/
import Derived.Test.YtehnalbdfnmphaaDoorP1
namespace Go.Proofs.YtehnalbdfnmphaaDoor
open Go.Ab
set_option linter.unusedVariables false
set_option linter.unusedSimpArgs false
set_option maxRecDepth 20000
set_option maxHeartbeats 4000000
attribute [local irreducible] wOps wA wSeq wBlk wRound wRoundI wOpsD

/-! ### Plainly -/
/-- n labels, and no more words. -/
def labN : Nat → List (List UInt8) → Option (List Int)
  | 0, ws => if ws = [] then some [] else none
  | n + 1, [] => none
  | n + 1, w :: r => match numA w 1 9999, labN n r with
    | some v, some l => some (v :: l)
    | _, _ => none
theorem labN_len : ∀ {n : Nat} {ws : List (List UInt8)} {l : List Int}, labN n ws = some l → ws.length = n ∧ l.length = n
  | 0, ws, l, h => by
    unfold labN at h
    split at h
    · rename_i h1; cases h; subst h1; exact ⟨rfl, rfl⟩
    · cases h
  | n + 1, [], l, h => by simp [labN] at h
  | n + 1, w :: r, l, h => by
    unfold labN at h
    split at h
    · rename_i v l' h1 h2
      cases h
      obtain ⟨a, b⟩ := labN_len h2
      exact ⟨by simp [a], by simp [b]⟩
    · cases h
theorem crsL_cons (w : List UInt8) (r : List (List UInt8)) : crsL (w :: r) = if w = [43] ∨ w = [45] then (labN 4 r).map fun l => (if w = [43] then 1 else -1, l) else none := by
  by_cases h4 : r.length = 4
  · match r, h4 with
    | [a, b, c, d], _ =>
      unfold crsL
      by_cases hw : w = [43] ∨ w = [45]
      · simp only [hw, if_true, labN]
        cases numA a 1 9999 <;> cases numA b 1 9999 <;> cases numA c 1 9999 <;> cases numA d 1 9999 <;> rfl
      · simp only [hw, if_false]
  · have h1 : crsL (w :: r) = none := by
      unfold crsL
      split
      · rename_i e
        simp at e
        obtain ⟨-, rfl⟩ := e
        exact absurd rfl h4
      · rfl
    rw [h1]
    cases h : labN 4 r with
    | none => simp
    | some l => exact absurd (labN_len h).1 h4
theorem numA_range {s : List UInt8} {a b v : Int} (h : numA s a b = some v) : a ≤ v ∧ v ≤ b := by
  unfold numA at h
  split at h
  · cases h
  · split at h
    · cases h
    · split at h
      · cases h
      · cases h; omega
theorem labN_range : ∀ {n : Nat} {ws : List (List UInt8)} {l : List Int}, labN n ws = some l → ∀ v ∈ l, 1 ≤ v ∧ v ≤ 9999
  | 0, ws, l, h => by
    unfold labN at h
    split at h
    · cases h; intro v hv; simp at hv
    · cases h
  | n + 1, [], l, h => by simp [labN] at h
  | n + 1, w :: r, l, h => by
    unfold labN at h
    split at h
    · rename_i v l' h1 h2
      cases h
      intro x hx
      rcases List.mem_cons.1 hx with rfl | hx
      · exact numA_range h1
      · exact labN_range h2 x hx
    · cases h
theorem crs_some {s : List UInt8} {x : Int} {l : List Int} (h : crs s = some (x, l)) : (x = 1 ∨ x = -1) ∧ l.length = 4 ∧ ∀ v ∈ l, 1 ≤ v ∧ v ≤ 9999 := by
  unfold crs at h
  cases hs : spl 32 s with
  | nil => exact absurd hs (spl_ne _ _)
  | cons w r =>
    rw [hs, crsL_cons] at h
    split at h
    · simp only [Option.map_eq_some_iff, Prod.mk.injEq] at h
      obtain ⟨l', h1, h2, rfl⟩ := h
      refine ⟨?_, (labN_len h1).2, labN_range h1⟩
      split at h2 <;> omega
    · cases h

/-! ### The walk -/
abbrev E0 (es : List Int) : Blk := .cells (es.map (.int .i64)) true 0
abbrev zer : List Int := [0, 0, 0, 0, 0]
theorem wrE {L : Heap} {k i : Nat} {es : List Int} (hL : L[k]? = some (E0 es)) (hi : i < es.length) {o : Nat} (ho : o = i) {x : Int} : writeN L k o [.int .i64 x] = some (L.set k (E0 (es.set i x))) := by
  subst ho
  have := wrI (z := 0) hL hi x
  rwa [Nat.zero_add, Nat.mul_one] at this
def I67 (h0 : Heap) (sg : Int) (W : List (List UInt8)) (E : Env) (h : Heap) : Prop := ∃ (k : Nat) (rest : List UInt8) (acc : List Int), k ≤ 4 ∧ acc.length = k ∧ rest.length ≤ 1000000 ∧
  (k < 4 → labN 4 W = (labN (4 - k) (spl 32 rest)).map (acc ++ ·)) ∧ (k = 4 → labN 4 W = some acc) ∧
  h = h0 ++ [E0 zer, E0 (sg :: (acc ++ List.replicate (4 - k) 0))] ∧
  E = [(2, some (.sc (.ptr (h0.length + 0) 0))), (4, some (.sc (.ptr (h0.length + 1) 0))), (6, some (.sc (tb rest))), (26, some (.sc (.int .i64 (k : Nat))))]
def R67 (h0 : Heap) (sg : Int) (W : List (List UInt8)) (ex : Ex) (E : Env) (h : Heap) : Prop := match ex with
  | .rt => labN 4 W = none ∧ (∃ x, h = h0 ++ [E0 zer, x]) ∧ E = [(2, some (.sc (.ptr (h0.length + 0) 0))), (3, some (.sc (.bool false)))]
  | .ex z => z = 1 ∧ ∃ acc, labN 4 W = some acc ∧ h = h0 ++ [E0 zer, E0 (sg :: acc)] ∧ ∃ x y z, E = [(2, some (.sc (.ptr (h0.length + 0) 0))), (4, some (.sc (.ptr (h0.length + 1) 0))), (6, x), (26, y), (27, z)]
  | .nm => False
theorem round67 (h0 : Heap) (sg : Int) (W : List (List UInt8)) (E : Env) (h : Heap) (hI : I67 h0 sg W E h) :
    wA FT HKp b67L0 (E.keep [2, 4, 6, 26]) h (wRound (I67 h0 sg W) (cntV 4 26) (cntV 4 26 E h) (R67 h0 sg W)) := by
  obtain ⟨k, rest, acc, hk, hal, hrl, h1, h2, rfl, rfl⟩ := hI
  by_cases hlt : k < 4
  · have hW := h1 hlt
    have e32 : (.sc (.str (⟨#[32]⟩ : ByteArray)) : AV) = .sc (tb [32]) := rfl
    have kc := cut_callP (h := h0 ++ [E0 zer, E0 (sg :: (acc ++ List.replicate (4 - k) 0))]) rest [32] hrl
    obtain ⟨w, r', m, hcut, hwl, hrl', hm⟩ : ∃ w r' m, Lib.cut rest [32] = (w, r', m) ∧ w.length ≤ 1000000 ∧ r'.length ≤ 1000000 ∧ ((m = false ∧ spl 32 rest = [w]) ∨ (m = true ∧ spl 32 rest = w :: spl 32 r')) := by
      rcases cut_spl 32 rest with ⟨a, b, c⟩ | ⟨w, r', a, b, c, d⟩
      · exact ⟨_, _, _, b, hrl, by simp, .inl ⟨rfl, c⟩⟩
      · have := congrArg List.length a
        simp at this
        exact ⟨_, _, _, c, by omega, by omega, .inr ⟨rfl, d⟩⟩
    rw [hcut] at kc
    have kn := call66 (h0 ++ [E0 zer, E0 (sg :: (acc ++ List.replicate (4 - k) 0))]) w 1 9999 hwl
    cases hv : numA w 1 9999 with
    | none =>
      have hno : labN 4 W = none := by
        rw [hW, show 4 - k = (3 - k) + 1 by omega]
        rcases hm with ⟨-, hm⟩ | ⟨-, hm⟩ <;> rw [hm] <;> simp [labN, hv]
      rw [hv] at kn
      repeat' (first | refine w_seq ?_ | refine w_seqN ?_ | refine w_seqR ?_ | refine w_blk ?_ | refine w_blkR ?_ | refine w_skip ?_ | refine w_ret ?_ | refine w_ops ?_ | ((refine i_cond ?_); refine w_condT rfl ?_) | ((refine i_nil ?_); first | refine w_end2 rfl rfl ?_ | refine w_end5 rfl rfl rfl rfl rfl ?_ | refine w_end7 rfl rfl rfl rfl rfl rfl rfl ?_ | refine w_end8 rfl rfl rfl rfl rfl rfl rfl rfl ?_) | ((refine i_cons ?_); first | (refine k_call rfl kc ?_; rintro v h3 ⟨rfl, rfl⟩) | (refine k_call rfl kn ?_; rintro v h3 ⟨rfl, rfl⟩) | refine k_stL rfl rfl rfl rfl rfl ?_ | refine k_skip rfl ?_ | refine k_mv rfl ?_ | refine k_pickT rfl rfl ?_ | refine k_notF rfl ?_ | refine k_lssT rfl rfl (by omega) ?_ | refine k_ok rfl rfl ?_))
      exact w_roundR ⟨hno, ⟨_, rfl⟩, rfl⟩
    | some v =>
      rw [hv] at kn
      by_cases h3 : k < 3
      · have hd : 4 - k = (3 - k) + 1 := by omega
        rcases hm with ⟨rfl, hm⟩ | ⟨rfl, hm⟩
        · have hno : labN 4 W = none := by
            rw [hW, hm, hd, show 3 - k = (2 - k) + 1 by omega]
            simp [labN, hv]
          repeat' (first | refine w_seq ?_ | refine w_seqN ?_ | refine w_seqR ?_ | refine w_blk ?_ | refine w_blkR ?_ | refine w_skip ?_ | refine w_ret ?_ | refine w_ops ?_ | ((refine i_cond ?_); refine w_condT rfl ?_) | ((refine i_nil ?_); first | refine w_end2 rfl rfl ?_ | refine w_end5 rfl rfl rfl rfl rfl ?_ | refine w_end7 rfl rfl rfl rfl rfl rfl rfl ?_ | refine w_end8 rfl rfl rfl rfl rfl rfl rfl rfl ?_) | ((refine i_cons ?_); first | (refine k_call rfl kc ?_; rintro v h3 ⟨rfl, rfl⟩) | (refine k_call rfl kn ?_; rintro v h3 ⟨rfl, rfl⟩) | refine k_stL rfl rfl rfl rfl rfl ?_ | refine k_beq rfl rfl ?_ | refine k_want rfl ?_ | refine k_mv rfl ?_ | refine k_pickF rfl rfl ?_ | refine k_notT rfl ?_ | refine k_lssT rfl rfl (by omega) ?_ | refine k_ok rfl rfl ?_))
          exact w_roundR ⟨hno, ⟨_, rfl⟩, rfl⟩
        · have hyes : labN 4 W = (labN (4 - (k + 1)) (spl 32 r')).map ((acc ++ [v]) ++ ·) := by
            rw [hW, hm, hd, show 4 - (k + 1) = 3 - k by omega]
            simp only [labN, hv]
            cases labN (3 - k) (spl 32 r') with
            | none => rfl
            | some l => simp
          have hes : (sg :: (acc ++ List.replicate (4 - k) 0)).set (1 + k) v = sg :: ((acc ++ [v]) ++ List.replicate (4 - (k + 1)) 0) := by
            rw [Nat.add_comm, List.set_cons_succ, ← hal, List.set_append_right _ _ (Nat.le_refl _), Nat.sub_self, hal, hd, List.replicate_succ]
            simp [show 4 - (k + 1) = 3 - k by omega]
          repeat' (first | refine w_seq ?_ | refine w_seqN ?_ | refine w_blk ?_ | refine w_blkN ?_ | refine w_skip ?_ | refine w_ops ?_ | ((refine i_cond ?_); first | refine w_condT rfl ?_ | refine w_condF rfl ?_) | ((refine i_nil ?_); first | refine w_end4 rfl rfl rfl rfl ?_ | refine w_end5 rfl rfl rfl rfl rfl ?_ | refine w_end7 rfl rfl rfl rfl rfl rfl rfl ?_ | refine w_end8 rfl rfl rfl rfl rfl rfl rfl rfl ?_) | ((refine i_cons ?_); first | (refine k_call rfl kc ?_; rintro v h3 ⟨rfl, rfl⟩) | (refine k_call rfl kn ?_; rintro v h3 ⟨rfl, rfl⟩) | refine op_idxP rfl rfl rfl (by omega) ?_ | refine k_fldA rfl ?_ | refine k_stL rfl rfl rfl rfl (wrE (k := 1) (i := 1 + k) rfl (by simp [hal]; omega) (by omega)) ?_ | refine k_beq rfl rfl ?_ | refine k_want rfl ?_ | refine k_mv rfl ?_ | refine k_pickF rfl rfl ?_ | refine k_notT rfl ?_ | refine k_add rfl rfl (by omega) ?_ | refine k_lssT rfl rfl (by omega) ?_ | refine k_ok rfl rfl ?_))
          refine w_roundN ⟨k + 1, r', acc ++ [v], by omega, by simp [hal], hrl', fun _ => hyes, fun h => by omega, ?_, rfl⟩ (by simp [cntV, Env.get]; omega)
          rw [← hes]; rfl
      · have hk3 : k = 3 := by omega
        subst hk3
        rcases hm with ⟨rfl, hm⟩ | ⟨rfl, hm⟩
        · have hyes : labN 4 W = some (acc ++ [v]) := by
            rw [hW, hm]
            simp [labN, hv]
          have hes : (sg :: (acc ++ List.replicate (4 - 3) 0)).set (1 + 3) v = sg :: ((acc ++ [v]) ++ List.replicate (4 - (3 + 1)) 0) := by
            match acc, hal with
            | [a, b, c], _ => rfl
          repeat' (first | refine w_seq ?_ | refine w_seqN ?_ | refine w_blk ?_ | refine w_blkN ?_ | refine w_skip ?_ | refine w_ops ?_ | ((refine i_cond ?_); first | refine w_condT rfl ?_ | refine w_condF rfl ?_) | ((refine i_nil ?_); first | refine w_end4 rfl rfl rfl rfl ?_ | refine w_end5 rfl rfl rfl rfl rfl ?_ | refine w_end7 rfl rfl rfl rfl rfl rfl rfl ?_ | refine w_end8 rfl rfl rfl rfl rfl rfl rfl rfl ?_) | ((refine i_cons ?_); first | (refine k_call rfl kc ?_; rintro v h3 ⟨rfl, rfl⟩) | (refine k_call rfl kn ?_; rintro v h3 ⟨rfl, rfl⟩) | refine op_idxP rfl rfl rfl (by omega) ?_ | refine k_fldA rfl ?_ | refine k_stL rfl rfl rfl rfl (wrE (k := 1) (i := 1 + 3) rfl (by simp [hal]) (by omega)) ?_ | refine k_beq rfl rfl ?_ | refine k_want rfl ?_ | refine k_mv rfl ?_ | refine k_pickF rfl rfl ?_ | refine k_notT rfl ?_ | refine k_add rfl rfl (by omega) ?_ | refine k_lssT rfl rfl (by omega) ?_ | refine k_lssF rfl rfl (by omega) ?_ | refine k_ok rfl rfl ?_))
          refine w_roundN ⟨4, r', acc ++ [v], by omega, by simp [hal], hrl', fun h => by omega, fun _ => hyes, ?_, rfl⟩ (by simp [cntV, Env.get])
          rw [← hes]; rfl
        · have hno : labN 4 W = none := by
            rw [hW, hm]
            simp only [labN, hv, Nat.reduceSub]
            rw [if_neg (spl_ne _ _)]
            rfl
          repeat' (first | refine w_seq ?_ | refine w_seqN ?_ | refine w_seqR ?_ | refine w_blk ?_ | refine w_blkR ?_ | refine w_skip ?_ | refine w_ret ?_ | refine w_ops ?_ | ((refine i_cond ?_); refine w_condT rfl ?_) | ((refine i_nil ?_); first | refine w_end2 rfl rfl ?_ | refine w_end5 rfl rfl rfl rfl rfl ?_ | refine w_end7 rfl rfl rfl rfl rfl rfl rfl ?_ | refine w_end8 rfl rfl rfl rfl rfl rfl rfl rfl ?_) | ((refine i_cons ?_); first | (refine k_call rfl kc ?_; rintro v h3 ⟨rfl, rfl⟩) | (refine k_call rfl kn ?_; rintro v h3 ⟨rfl, rfl⟩) | refine k_stL rfl rfl rfl rfl rfl ?_ | refine k_beq rfl rfl ?_ | refine k_want rfl ?_ | refine k_mv rfl ?_ | refine k_pickF rfl rfl ?_ | refine k_notT rfl ?_ | refine k_lssT rfl rfl (by omega) ?_ | refine k_lssF rfl rfl (by omega) ?_ | refine k_ok rfl rfl ?_))
          exact w_roundR ⟨hno, ⟨_, rfl⟩, rfl⟩
  · have : k = 4 := by omega
    subst this
    repeat' (first | refine w_seq ?_ | refine w_seqN ?_ | refine w_seqX ?_ | refine w_exit ?_ | refine w_ops ?_ | ((refine i_cond ?_); refine w_condF rfl ?_) | ((refine i_nil ?_); refine w_end5 rfl rfl rfl rfl rfl ?_) | ((refine i_cons ?_); refine k_lssF rfl rfl (by omega) ?_))
    exact w_roundX ⟨rfl, acc, h2 rfl, by simp, _, _, _, rfl⟩

/-- What crossing answers. -/
def CrsV (s : List UInt8) (h0 : Heap) (v : AV) (h' : Heap) : Prop := Ext h0 h' ∧ match crs s with
  | some (x, l) => v = .tup [.agg ((x :: l).map (.int .i64)), .sc (.bool true)]
  | none => v = .tup [.agg (zer.map (.int .i64)), .sc (.bool false)]
theorem call67 (h0 : Heap) (s : List UInt8) (hl : s.length ≤ 1000000) : ∃ v h', Cal FT HKp 67 [.sc (tb s)] h0 v h' ∧ CrsV s h0 v h' := by
  refine Cal.of (F := a67) rfl rfl rfl ?_
  have kc := cut_callP (h := h0 ++ [E0 zer, E0 zer]) s [32] hl
  obtain ⟨w, r', m, hcut, hrl', hm⟩ : ∃ w r' m, Lib.cut s [32] = (w, r', m) ∧ r'.length ≤ 1000000 ∧ ((r' = [] ∧ spl 32 s = [w]) ∨ (spl 32 s = w :: spl 32 r')) := by
    rcases cut_spl 32 s with ⟨a, b, c⟩ | ⟨w, r', a, b, c, d⟩
    · exact ⟨_, _, _, b, by simp, .inl ⟨rfl, c⟩⟩
    · have := congrArg List.length a
      simp at this
      exact ⟨_, _, _, c, by omega, .inr d⟩
  rw [hcut] at kc
  have hcr : crs s = if w = [43] ∨ w = [45] then (labN 4 (spl 32 r')).map fun l => (if w = [43] then 1 else -1, l) else none := by
    unfold crs
    rcases hm with ⟨rfl, hm⟩ | hm
    · rw [hm, crsL_cons]
      have e : labN 4 [] = labN 4 (spl 32 []) := by simp [labN, spl, numA]
      rw [e]
    · rw [hm, crsL_cons]
  have hW : ∀ sg, I67 h0 sg (spl 32 r') [(2, some (.sc (.ptr (h0.length + 0) 0))), (4, some (.sc (.ptr (h0.length + 1) 0))), (6, some (.sc (tb r'))), (26, some (.sc (.int .i64 ((0 : Nat) : Int))))] (h0 ++ [E0 zer, E0 (sg :: ([] ++ List.replicate 4 0))]) := fun sg =>
    ⟨0, r', [], by omega, rfl, hrl', fun _ => by simp, fun h => by omega, rfl, rfl⟩
  by_cases c1 : w = [43]
  · rw [if_pos (.inl c1), if_pos c1] at hcr
    repeat' (first | refine w_seq ?_ | refine w_seqN ?_ | refine w_blk ?_ | refine w_blkN ?_ | refine w_ops ?_ | ((refine i_cond ?_); refine w_condT rfl ?_) | ((refine i_nil ?_); first | refine w_end2 rfl rfl ?_ | refine w_end3 rfl rfl rfl ?_ | refine w_end4 rfl rfl rfl rfl ?_ | refine w_end5 rfl rfl rfl rfl rfl ?_) | ((refine i_cons ?_); first | refine k_newL ?_ | refine k_new0 ?_ | (refine k_call rfl kc ?_; rintro v h3 ⟨rfl, rfl⟩) | refine k_seql rfl (show _ = some (tb [43]) from rfl) (decide_eq_true c1) ?_ | refine k_fldA rfl ?_ | refine k_stL rfl rfl rfl rfl (wrE (k := 1) (i := 0) rfl (by decide) (by omega)) ?_ | refine k_mv rfl ?_ | refine k_ok rfl rfl ?_))
    refine w_loop (I67 h0 1 (spl 32 r')) (cntV 4 26) (R67 h0 1 (spl 32 r')) (hW 1) (round67 h0 1 (spl 32 r')) ?_
    rintro ex E' h' hR
    cases ex with
    | nm => exact hR.elim
    | rt =>
      obtain ⟨hno, ⟨x, rfl⟩, rfl⟩ := hR
      repeat' (first | refine w_seqR ?_ | refine w_blkR ?_)
      refine ⟨.inr rfl, oK_cellt rfl (by rw [rdA]; rfl) rfl ⟨⟨_, rfl⟩, ?_⟩⟩
      rw [hcr, hno]; rfl
    | ex z =>
      obtain ⟨rfl, acc, ha, rfl, x, y, z, rfl⟩ := hR
      obtain ⟨a, b, c, d, rfl⟩ : ∃ a b c d, acc = [a, b, c, d] := by
        match acc, (labN_len ha).2 with
        | [a, b, c, d], _ => exact ⟨a, b, c, d, rfl⟩
      repeat' (first | refine w_seq ?_ | refine w_seqN ?_ | refine w_blkX ?_ | refine w_ret ?_ | refine w_ops ?_ | ((refine i_nil ?_); refine w_end2 rfl rfl ?_) | ((refine i_cons ?_); first | refine k_ldAL rfl rfl ?_ | refine k_stL rfl rfl rfl rfl rfl ?_ | refine k_mv rfl ?_))
      refine ⟨.inr rfl, oK_cellt rfl (by rw [rdA]; rfl) rfl ⟨⟨_, rfl⟩, ?_⟩⟩
      rw [hcr, ha]; rfl
  by_cases c2 : w = [45]
  · rw [if_pos (.inr c2), if_neg c1] at hcr
    repeat' (first | refine w_seq ?_ | refine w_seqN ?_ | refine w_blk ?_ | refine w_blkN ?_ | refine w_ops ?_ | ((refine i_cond ?_); first | refine w_condT rfl ?_ | refine w_condF rfl ?_) | ((refine i_nil ?_); first | refine w_end2 rfl rfl ?_ | refine w_end3 rfl rfl rfl ?_ | refine w_end4 rfl rfl rfl rfl ?_ | refine w_end5 rfl rfl rfl rfl rfl ?_) | ((refine i_cons ?_); first | refine k_newL ?_ | refine k_new0 ?_ | (refine k_call rfl kc ?_; rintro v h3 ⟨rfl, rfl⟩) | refine k_seql rfl (show _ = some (tb [43]) from rfl) (decide_eq_false c1) ?_ | refine k_seql rfl (show _ = some (tb [45]) from rfl) (decide_eq_true c2) ?_ | refine k_fldA rfl ?_ | refine k_stL rfl rfl rfl rfl (wrE (k := 1) (i := 0) rfl (by decide) (by omega)) ?_ | refine k_mv rfl ?_ | refine k_ok rfl rfl ?_))
    refine w_loop (I67 h0 (-1) (spl 32 r')) (cntV 4 26) (R67 h0 (-1) (spl 32 r')) (hW (-1)) (round67 h0 (-1) (spl 32 r')) ?_
    rintro ex E' h' hR
    cases ex with
    | nm => exact hR.elim
    | rt =>
      obtain ⟨hno, ⟨x, rfl⟩, rfl⟩ := hR
      repeat' (first | refine w_seqR ?_ | refine w_blkR ?_)
      refine ⟨.inr rfl, oK_cellt rfl (by rw [rdA]; rfl) rfl ⟨⟨_, rfl⟩, ?_⟩⟩
      rw [hcr, hno]; rfl
    | ex z =>
      obtain ⟨rfl, acc, ha, rfl, x, y, z, rfl⟩ := hR
      obtain ⟨a, b, c, d, rfl⟩ : ∃ a b c d, acc = [a, b, c, d] := by
        match acc, (labN_len ha).2 with
        | [a, b, c, d], _ => exact ⟨a, b, c, d, rfl⟩
      repeat' (first | refine w_seq ?_ | refine w_seqN ?_ | refine w_blkX ?_ | refine w_ret ?_ | refine w_ops ?_ | ((refine i_nil ?_); refine w_end2 rfl rfl ?_) | ((refine i_cons ?_); first | refine k_ldAL rfl rfl ?_ | refine k_stL rfl rfl rfl rfl rfl ?_ | refine k_mv rfl ?_))
      refine ⟨.inr rfl, oK_cellt rfl (by rw [rdA]; rfl) rfl ⟨⟨_, rfl⟩, ?_⟩⟩
      rw [hcr, ha]; rfl
  · rw [if_neg (by simp [c1, c2])] at hcr
    repeat' (first | refine w_seq ?_ | refine w_seqN ?_ | refine w_seqR ?_ | refine w_blk ?_ | refine w_blkR ?_ | refine w_ret ?_ | refine w_ops ?_ | ((refine i_cond ?_); refine w_condF rfl ?_) | ((refine i_nil ?_); first | refine w_end2 rfl rfl ?_ | refine w_end3 rfl rfl rfl ?_ | refine w_end4 rfl rfl rfl rfl ?_ | refine w_end5 rfl rfl rfl rfl rfl ?_) | ((refine i_cons ?_); first | refine k_newL ?_ | refine k_new0 ?_ | (refine k_call rfl kc ?_; rintro v h3 ⟨rfl, rfl⟩) | refine k_seql rfl (show _ = some (tb [43]) from rfl) (decide_eq_false c1) ?_ | refine k_seql rfl (show _ = some (tb [45]) from rfl) (decide_eq_false c2) ?_ | refine k_stL rfl rfl rfl rfl rfl ?_ | refine k_mv rfl ?_ | refine k_ok rfl rfl ?_))
    refine ⟨.inr rfl, oK_cellt rfl (by rw [rdA]; rfl) rfl ⟨⟨_, rfl⟩, ?_⟩⟩
    rw [hcr]; rfl
end Go.Proofs.YtehnalbdfnmphaaDoor
