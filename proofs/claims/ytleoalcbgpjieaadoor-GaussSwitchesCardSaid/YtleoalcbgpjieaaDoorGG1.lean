/- gauss.genus: counting the faces. -/
import Derived.Test.YtleoalcbgpjieaaDoorGE
namespace Go.Proofs.YtleoalcbgpjieaaDoor
open Go.Ab
set_option linter.unusedVariables false
set_option linter.unusedSimpArgs false
set_option maxRecDepth 20000
set_option maxHeartbeats 4000000
attribute [local irreducible] wOps wA wSeq wBlk wRound wRoundI wOpsD

theorem snRd0 {sn : List Bool} {k : Nat} (hk : k < sn.length) {j : Int} (hj : j = (k : Nat)) : readN [SN sn] 0 (0 + j.toNat * 1) 1 = some [.bool (sn.getD k false)] := by
  subst hj
  rw [Int.toNat_natCast]
  exact rdS (vs := sn.map .bool) (rw' := true) (z := 1) rfl (by simp [List.getD, hk])
theorem snWr0 {sn : List Bool} {k : Nat} (hk : k < sn.length) {j : Int} {x : Bool} (hj : j = (k : Nat)) : writeN [SN sn] 0 (0 + j.toNat * 1) [.bool x] = some [SN (sn.set k x)] := by
  subst hj
  rw [Int.toNat_natCast]
  have := wrS (L := [SN sn]) (k := 0) (j := k) (vs := sn.map .bool) (z := 1) rfl (by simpa using hk) (.bool x)
  rw [this]
  simp [SN, List.map_set]

def I36g (B : Heap) (m : SV) (ms : List Int) (n F c : Nat) (k : Nat) (E : Env) (h : Heap) : Prop := ∃ (i : Nat) (sn : List Bool), SeenF ms c i sn ∧ uns sn = k ∧ h = B ++ [SN sn] ∧
  E = [(0, some (.sc m)), (3, some (.sc (.int .i64 (n : Nat)))), (4, some (.sc (.int .i64 (F : Nat)))), (5, some (.sc (.int .i64 0))), (6, some (.sc (.slc (B.length + 0) 0 ms.length (some ms.length)))), (8, some (.sc (.int .i64 (it (phi ms) i c : Nat)))), (22, some (.sc (.int .i64 (ms.length : Nat)))), (23, some (.sc (.int .i64 (c : Nat))))]
def R36g (B : Heap) (m : SV) (ms : List Int) (n F c : Nat) (ex : Ex) (E : Env) (h : Heap) : Prop := ex = .ex 2 ∧ ∃ (sn : List Bool), SeenG ms (c + 1) sn ∧ h = B ++ [SN sn] ∧ ∃ x y,
  E = [(0, some (.sc m)), (3, some (.sc (.int .i64 (n : Nat)))), (4, some (.sc (.int .i64 (F : Nat)))), (5, some (.sc (.int .i64 0))), (6, some (.sc (.slc (B.length + 0) 0 ms.length (some ms.length)))), (8, x), (22, some (.sc (.int .i64 (ms.length : Nat)))), (23, some (.sc (.int .i64 (c : Nat)))), (37, y)]
theorem round36g (B : Heap) (m : SV) (ms : List Int) (n F c : Nat) (hs : IsInts B m ms) (hm : Mates ms) (hv : Inv ms) (hc : c < ms.length) (hno : ¬ Seen (phi ms) c c) (k : Nat) (E : Env) (h : Heap) (hI : I36g B m ms n F c k E h) :
    wA FT HKt b36L1 (E.keep [0, 3, 4, 5, 6, 8, 22, 23]) h (wRoundI (I36g B m ms n F c) k (R36g B m ms n F c)) := by
  obtain ⟨i, sn, hsn, rfl, rfl, rfl⟩ := hI
  have hit := hm.it_lt hc i
  have hml := hm.len
  have hsl : it (phi ms) i c < sn.length := by rw [hsn.1]; exact hit
  have hi := phi_inj hm hv
  have hl : ∀ h, h < ms.length → phi ms h < ms.length := fun h hh => hm.phi_lt hh
  cases hx : sn.getD (it (phi ms) i c) false with
  | true =>
    have hst := seen_stop hi hl hc hno ((hsn.2 _ hit).1 hx)
    have hrd := snRd0 hsl (j := ((it (phi ms) i c : Nat) : Int)) rfl
    rw [hx] at hrd
    repeat' (first | refine w_seq ?_ | refine w_seqN ?_ | refine w_seqX ?_ | refine w_exit ?_ | refine w_ops ?_ | ((refine i_cond ?_); refine w_condF rfl ?_) | ((refine i_nil ?_); refine w_end9 rfl rfl rfl rfl rfl rfl rfl rfl rfl ?_) | ((refine i_cons ?_); first | refine k_idxA rfl rfl (by omega) ?_ | refine k_ldL rfl hrd ?_ | refine k_mv rfl ?_ | refine k_notT rfl ?_))
    exact w_roundIX ⟨rfl, sn, ⟨hsn.1, fun g hg => (hsn.2 g hg).trans (hst g)⟩, rfl, _, _, rfl⟩
  | false =>
    have hrd := snRd0 hsl (j := ((it (phi ms) i c : Nat) : Int)) rfl
    rw [hx] at hrd
    obtain ⟨t, hg1, hg2⟩ := hm.get _ hit
    obtain ⟨id, off, cap, rfl, hr⟩ := IsInts.at (isA [SN (sn.set (it (phi ms) i c) true)] hs) hg1
    repeat' (first | refine w_seq ?_ | refine w_seqN ?_ | refine w_blk ?_ | refine w_blkN ?_ | refine w_skip ?_ | refine w_ops ?_ | ((refine i_cond ?_); refine w_condT rfl ?_) | ((refine i_nil ?_); first | refine w_end8 rfl rfl rfl rfl rfl rfl rfl rfl ?_ | refine w_end9 rfl rfl rfl rfl rfl rfl rfl rfl rfl ?_) | ((refine i_cons ?_); first | refine k_idxA rfl rfl (by omega) ?_ | refine k_ldL rfl hrd ?_ | refine k_stL rfl rfl rfl rfl (snWr0 hsl rfl) ?_ | refine k_ld rfl hr ?_ | (refine k_call rfl (call57 (HK := HKt) rfl _ t 3 (-1) (by omega) (by omega) (.inr (by decide))) ?_; rintro v h3 ⟨rfl, rfl⟩) | refine k_mv rfl ?_ | refine k_notF rfl ?_))
    have hnx : it (phi ms) (i + 1) c = turnN t 3 := by
      show turnN (ms.getD (it (phi ms) i c) 0).toNat 3 = _
      rw [getD_at hg1]; simp
    refine w_roundIN (uns_set hsl hx) ⟨i + 1, sn.set (it (phi ms) i c) true, ⟨by rw [List.length_set]; exact hsn.1, fun g hg => ?_⟩, rfl, rfl, by rw [hnx]⟩
    rw [getDb_set hsl]
    split
    · rename_i he
      subst he
      exact ⟨fun _ => .inr ⟨i, by omega, rfl⟩, fun _ => rfl⟩
    · rename_i hne
      rw [hsn.2 g hg]
      constructor
      · exact fun h => h.imp (fun h => h) fun ⟨z, h1, h2⟩ => ⟨z, by omega, h2⟩
      · rintro (h | ⟨z, h1, h2⟩)
        · exact .inl h
        · rcases Nat.lt_or_ge z i with h3 | h3
          · exact .inr ⟨z, h3, h2⟩
          · have : z = i := by omega
            subst this
            exact absurd h2.symm hne

/-! ### All half-edges -/
def I36c (B : Heap) (m : SV) (ms : List Int) (n : Nat) (E : Env) (h : Heap) : Prop := ∃ (c : Nat) (sn : List Bool), c ≤ ms.length ∧ SeenG ms c sn ∧ h = B ++ [SN sn] ∧
  E = [(0, some (.sc m)), (3, some (.sc (.int .i64 (n : Nat)))), (4, some (.sc (.int .i64 ((leasts ms c).length : Nat)))), (5, some (.sc (.int .i64 0))), (6, some (.sc (.slc (B.length + 0) 0 ms.length (some ms.length)))), (22, some (.sc (.int .i64 (ms.length : Nat)))), (23, some (.sc (.int .i64 (c : Nat))))]
def R36c (B : Heap) (m : SV) (ms : List Int) (n : Nat) (ex : Ex) (E : Env) (h : Heap) : Prop := ex = .ex 0 ∧ ∃ (sn : List Bool), h = B ++ [SN sn] ∧ ∃ x y z w,
  E = [(0, some (.sc m)), (3, some (.sc (.int .i64 (n : Nat)))), (4, some (.sc (.int .i64 ((leasts ms ms.length).length : Nat)))), (5, some (.sc (.int .i64 0))), (6, x), (22, y), (23, z), (24, w)]
theorem round36c (B : Heap) (m : SV) (ms : List Int) (n : Nat) (hs : IsInts B m ms) (hm : Mates ms) (hv : Inv ms) (E : Env) (h : Heap) (hI : I36c B m ms n E h) :
    wA FT HKt b36L0 (E.keep [0, 3, 4, 5, 6, 22, 23]) h (wRound (I36c B m ms n) (cntV ms.length 23) (cntV ms.length 23 E h) (R36c B m ms n)) := by
  obtain ⟨c, sn, hc, hsn, rfl, rfl⟩ := hI
  have hi := phi_inj hm hv
  have hml := hm.len
  have hl : ∀ h, h < ms.length → phi ms h < ms.length := fun h hh => hm.phi_lt hh
  have hle := leasts_le ms c
  by_cases hlt : c < ms.length
  · have hsl : c < sn.length := by rw [hsn.1]; exact hlt
    have hrd := snRd0 hsl (j := ((c : Nat) : Int)) rfl
    cases hx : sn.getD c false with
    | true =>
      rw [hx] at hrd
      have hse := (hsn.2 c hlt).1 hx
      have hnl : ¬ Least (phi ms) c := fun h => (seen_least hi hl hlt).2 h hse
      have en : leasts ms (c + 1) = leasts ms c := by rw [leasts_succ, if_neg hnl, List.append_nil]
      repeat' (first | refine w_seq ?_ | refine w_seqN ?_ | refine w_seqX ?_ | refine w_blk ?_ | refine w_blkX ?_ | refine w_skip ?_ | refine w_exit ?_ | refine w_ops ?_ | ((refine i_cond ?_); refine w_condT rfl ?_) | ((refine i_nil ?_); first | refine w_end7 rfl rfl rfl rfl rfl rfl rfl ?_ | refine w_end8 rfl rfl rfl rfl rfl rfl rfl rfl ?_ | refine w_end9 rfl rfl rfl rfl rfl rfl rfl rfl rfl ?_) | ((refine i_cons ?_); first | refine k_idxA rfl rfl (by omega) ?_ | refine k_ldL rfl hrd ?_ | refine k_mv rfl ?_ | refine k_add rfl rfl (by omega) ?_ | refine k_lssT rfl rfl (by omega) ?_))
      exact w_roundN ⟨c + 1, sn, by omega, ⟨hsn.1, fun g hg => (hsn.2 g hg).trans (seen_skip hse).symm⟩, rfl, by rw [en]; rfl⟩ (by simp [cntV, Env.get]; omega)
    | false =>
      rw [hx] at hrd
      have hno : ¬ Seen (phi ms) c c := fun h => by have := (hsn.2 c hlt).2 h; rw [hx] at this; cases this
      have hL := (seen_least hi hl hlt).1 hno
      have en : (leasts ms (c + 1)).length = (leasts ms c).length + 1 := by rw [leasts_succ, if_pos hL, List.length_append]; rfl
      repeat' (first | refine w_seq ?_ | refine w_seqN ?_ | refine w_blk ?_ | refine w_skip ?_ | refine w_ops ?_ | ((refine i_cond ?_); first | refine w_condT rfl ?_ | refine w_condF rfl ?_) | ((refine i_nil ?_); first | refine w_end8 rfl rfl rfl rfl rfl rfl rfl rfl ?_ | refine w_end9 rfl rfl rfl rfl rfl rfl rfl rfl rfl ?_) | ((refine i_cons ?_); first | refine k_idxA rfl rfl (by omega) ?_ | refine k_ldL rfl hrd ?_ | refine k_mv rfl ?_ | refine k_add rfl rfl (by omega) ?_ | refine k_lssT rfl rfl (by omega) ?_))
      refine w_loopI (I36g B m ms n ((leasts ms c).length + 1) c) (uns sn) (R36g B m ms n ((leasts ms c).length + 1) c) ⟨0, sn, ⟨hsn.1, fun g hg => (hsn.2 g hg).trans ⟨.inl, fun h => h.elim (fun h => h) fun ⟨z, h1, _⟩ => absurd h1 (by omega)⟩⟩, rfl, rfl, rfl⟩ (round36g B m ms n _ c hs hm hv hlt hno) ?_
      rintro ex E' h' ⟨rfl, sn2, hsn2, rfl, x, y, rfl⟩
      repeat' (first | refine w_seqN ?_ | refine w_blkN ?_ | refine w_blkX ?_ | refine w_ops ?_ | ((refine i_nil ?_); refine w_end7 rfl rfl rfl rfl rfl rfl rfl ?_) | ((refine i_cons ?_); first | refine k_mv rfl ?_ | refine k_add rfl rfl (by omega) ?_))
      exact w_roundN ⟨c + 1, sn2, by omega, hsn2, rfl, by rw [en]; rfl⟩ (by simp [cntV, Env.get]; omega)
  · have : c = ms.length := by omega
    subst this
    repeat' (first | refine w_seq ?_ | refine w_seqN ?_ | refine w_seqX ?_ | refine w_exit ?_ | refine w_ops ?_ | ((refine i_cond ?_); refine w_condF rfl ?_) | ((refine i_nil ?_); refine w_end8 rfl rfl rfl rfl rfl rfl rfl rfl ?_) | ((refine i_cons ?_); refine k_lssF rfl rfl (by omega) ?_))
    exact w_roundX ⟨rfl, sn, rfl, _, _, _, _, rfl⟩
end Go.Proofs.YtleoalcbgpjieaaDoor
