/- The reference's Parse: the mates. -/
import Derived.Test.YtehnalbdfnmphaaDoorPQ3
import Derived.Test.YtehnalbdfnmphaaDoorPP4
namespace Go.Proofs.YtehnalbdfnmphaaDoor
open Go.Ab
set_option linter.unusedVariables false
set_option linter.unusedSimpArgs false
set_option maxRecDepth 20000
set_option maxHeartbeats 4000000
attribute [local irreducible] wOps wA wSeq wBlk wRound wRoundI wOpsD

/-- The mates while half-edge h is looked at, below g. -/
def Mg (Lb M : List Int) (h g : Nat) : List Int := match (fm Lb h g).getLast? with
  | none => M
  | some x => M.set h (x : Nat)
theorem Mg_zero (Lb M : List Int) (h : Nat) : Mg Lb M h 0 = M := rfl
theorem Mg_len (Lb M : List Int) (h g : Nat) : (Mg Lb M h g).length = M.length := by
  unfold Mg; split <;> simp
theorem Mg_yes {Lb M : List Int} {h g : Nat} (h1 : g ≠ h) (h2 : Lb.getD g 0 = Lb.getD h 0) : (Mg Lb M h g).set h (g : Nat) = Mg Lb M h (g + 1) := by
  have e : Mg Lb M h (g + 1) = M.set h (g : Nat) := by
    unfold Mg
    rw [fm_yes h1 h2]
    simp
  rw [e]
  unfold Mg
  split
  · rfl
  · rw [List.set_set]
theorem Mg_no {Lb M : List Int} {h g : Nat} (h1 : ¬ (g ≠ h ∧ Lb.getD g 0 = Lb.getD h 0)) : Mg Lb M h (g + 1) = Mg Lb M h g := by
  unfold Mg
  rw [fm_no h1]

section
variable (h0 T0 T : Heap) (o o2 : SV) (l : Int) (S Lb : List Int)
abbrev bm : Blk := .cells [o, .slc ((HH h0 T0).length + (T.length + 1)) 0 Lb.length (some Lb.length), .int .i64 l] true 0
abbrev GM (M : List Int) : Heap := HH h0 T0 ++ (bm h0 T0 T o l Lb :: (T ++ [EX M]))
theorem wrM {b : Blk} {M : List Int} {h : Nat} {j x : Int} (hj : j = (h : Nat)) (hh : h < M.length) : writeN (b :: (T ++ [EX M])) (T.length + 1) (0 + j.toNat * 1) [.int .i64 x] = some (b :: (T ++ [EX (M.set h x)])) := by
  have hg : (b :: (T ++ [EX M]))[T.length + 1]? = some (EX M) := by simp
  rw [wrL hg hh hj]
  simp
def I23g (h : Nat) (M : List Int) (E : Env) (hp : Heap) : Prop := ∃ g : Nat, g ≤ Lb.length ∧ hp = GM h0 T0 T o l Lb (Mg Lb M h g) ∧
  E = [(2, some (.sc (.ptr (h0.length + 0) 0))), (6, some (.sc (.ptr ((HH h0 T0).length + 0) 0))), (7, some (.sc o2)), (11, some (.sc (.int .i64 (h : Nat)))), (12, some (.sc (.int .i64 ((fm Lb h g).length : Nat)))), (13, some (.sc (.int .i64 (g : Nat))))]
def R23g (h : Nat) (M : List Int) (ex : Ex) (E : Env) (hp : Heap) : Prop := ex = .ex 4 ∧ hp = GM h0 T0 T o l Lb (Mg Lb M h Lb.length) ∧ ∃ a b,
  E = [(2, some (.sc (.ptr (h0.length + 0) 0))), (6, some (.sc (.ptr ((HH h0 T0).length + 0) 0))), (7, some (.sc o2)), (11, some (.sc (.int .i64 (h : Nat)))), (12, some (.sc (.int .i64 ((fm Lb h Lb.length).length : Nat)))), (13, a), (108, b)]
theorem round23g (hL : ∀ M, IsInts (GM h0 T0 T o l Lb M) o2 Lb) (hN : Lb.length ≤ 256) (h : Nat) (hh : h < Lb.length) (M : List Int) (hM : M.length = Lb.length) (E : Env) (hp : Heap) (hI : I23g h0 T0 T o o2 l Lb h M E hp) :
    wA FT HKt b23L2 (E.keep [2, 6, 7, 11, 12, 13]) hp (wRound (I23g h0 T0 T o o2 l Lb h M) (cntV Lb.length 13) (cntV Lb.length 13 E hp) (R23g h0 T0 T o o2 l Lb h M)) := by
  obtain ⟨g, hg, rfl, rfl⟩ := hI
  have hol : lenS false o2 = some (Lb.length : Int) := IsSl.len (hL M)
  have hfl := fm_len Lb h g
  by_cases hlt : g < Lb.length
  · have hgv : Lb[g]? = some (Lb.getD g 0) := by simp [List.getD, hlt]
    have hhv : Lb[h]? = some (Lb.getD h 0) := by simp [List.getD, hh]
    obtain ⟨id, off, cap, eu, hr⟩ := IsInts.at (hL (Mg Lb M h g)) hgv
    obtain ⟨id2, off2, cap2, eu2, hr2⟩ := IsInts.at (hL (Mg Lb M h g)) hhv
    rw [eu] at eu2
    simp only [SV.slc.injEq, true_and] at eu2
    obtain ⟨rfl, rfl, rfl⟩ := eu2
    subst eu
    have hr' : ∀ {j : Int}, j = (g : Nat) → readN (GM h0 T0 T o l Lb (Mg Lb M h g)) id (off + j.toNat * 1) 1 = some [.int .i64 (Lb.getD g 0)] := fun hj => by subst hj; rw [Int.toNat_natCast]; exact hr
    have hr2' : ∀ {j : Int}, j = (h : Nat) → readN (GM h0 T0 T o l Lb (Mg Lb M h g)) id (off + j.toNat * 1) 1 = some [.int .i64 (Lb.getD h 0)] := fun hj => by subst hj; rw [Int.toNat_natCast]; exact hr2
    have hml := Mg_len Lb M h g
    by_cases c1 : g = h
    · have e1 : ¬ (g ≠ h ∧ Lb.getD g 0 = Lb.getD h 0) := fun hc => hc.1 c1
      have em := Mg_no (M := M) e1
      have ef := fm_no e1
      repeat' (first | refine w_seq ?_ | refine w_seqN ?_ | refine w_blk ?_ | refine w_blkN ?_ | refine w_skip ?_ | refine w_ops ?_ | refine w_opsD ?_ | refine d_one ?_ | refine d_nil ?_ | ((refine i_cond ?_); first | refine w_condT rfl ?_ | refine w_condF rfl ?_) | ((refine i_nil ?_); first | refine d_same ?_ | refine w_end6 rfl rfl rfl rfl rfl rfl ?_ | refine w_end7 rfl rfl rfl rfl rfl rfl rfl ?_) | ((refine i_cons ?_); first | refine k_len rfl hol ?_ | refine k_skip rfl ?_ | refine k_mv rfl ?_ | refine k_pickF rfl rfl ?_ | refine k_add rfl rfl (by omega) ?_ | refine k_lssT rfl rfl (by omega) ?_ | refine k_neqF rfl rfl (by omega) ?_))
      exact w_roundN ⟨g + 1, by omega, by rw [em], by rw [ef]; rfl⟩ (by simp [cntV, Env.get]; omega)
    by_cases c2 : Lb.getD g 0 = Lb.getD h 0
    · have em := Mg_yes (M := M) c1 c2
      have ef := fm_yes c1 c2
      repeat' (first | refine w_seq ?_ | refine w_seqN ?_ | refine w_blk ?_ | refine w_blkN ?_ | refine w_skip ?_ | refine w_ops ?_ | refine w_opsD ?_ | refine d_one ?_ | refine d_nil ?_ | ((refine i_cond ?_); refine w_condT rfl ?_) | ((refine i_nil ?_); first | refine d_same ?_ | refine w_end6 rfl rfl rfl rfl rfl rfl ?_ | refine w_end7 rfl rfl rfl rfl rfl rfl rfl ?_) | ((refine i_cons ?_); first | refine k_len rfl hol ?_ | refine k_idxA (j := (g : Int)) rfl rfl (by omega) ?_ | refine k_idxA (j := (h : Int)) rfl rfl (by omega) ?_ | refine k_ld rfl (hr' rfl) ?_ | refine k_ld rfl (hr2' rfl) ?_ | refine k_fldA rfl ?_ | refine k_ldL rfl rfl ?_ | refine k_stL rfl rfl rfl rfl (wrM T rfl (by omega)) ?_ | refine k_want rfl ?_ | refine k_mv rfl ?_ | refine k_pickT rfl rfl ?_ | refine k_add rfl rfl (by omega) ?_ | refine k_lssT rfl rfl (by omega) ?_ | refine k_eqlT rfl rfl (by omega) ?_ | refine k_neqT rfl rfl (by omega) ?_))
      have ec : (((fm Lb h (g + 1)).length : Nat) : Int) = ((fm Lb h g).length : Int) + 1 := by rw [ef, List.length_append]; rfl
      exact w_roundN ⟨g + 1, by omega, by rw [← em], by rw [ec]; rfl⟩ (by simp [cntV, Env.get]; omega)
    · have e1 : ¬ (g ≠ h ∧ Lb.getD g 0 = Lb.getD h 0) := fun hc => c2 hc.2
      have em := Mg_no (M := M) e1
      have ef := fm_no e1
      repeat' (first | refine w_seq ?_ | refine w_seqN ?_ | refine w_blk ?_ | refine w_blkN ?_ | refine w_skip ?_ | refine w_ops ?_ | refine w_opsD ?_ | refine d_one ?_ | refine d_nil ?_ | ((refine i_cond ?_); first | refine w_condT rfl ?_ | refine w_condF rfl ?_) | ((refine i_nil ?_); first | refine d_same ?_ | refine w_end6 rfl rfl rfl rfl rfl rfl ?_ | refine w_end7 rfl rfl rfl rfl rfl rfl rfl ?_) | ((refine i_cons ?_); first | refine k_len rfl hol ?_ | refine k_idxA (j := (g : Int)) rfl rfl (by omega) ?_ | refine k_idxA (j := (h : Int)) rfl rfl (by omega) ?_ | refine k_ld rfl (hr' rfl) ?_ | refine k_ld rfl (hr2' rfl) ?_ | refine k_want rfl ?_ | refine k_mv rfl ?_ | refine k_pickT rfl rfl ?_ | refine k_add rfl rfl (by omega) ?_ | refine k_lssT rfl rfl (by omega) ?_ | refine k_eqlF rfl rfl (by omega) ?_ | refine k_neqT rfl rfl (by omega) ?_))
      exact w_roundN ⟨g + 1, by omega, by rw [em], by rw [ef]; rfl⟩ (by simp [cntV, Env.get]; omega)
  · have : g = Lb.length := by omega
    subst this
    repeat' (first | refine w_seq ?_ | refine w_seqN ?_ | refine w_seqX ?_ | refine w_exit ?_ | refine w_ops ?_ | ((refine i_cond ?_); refine w_condF rfl ?_) | ((refine i_nil ?_); refine w_end7 rfl rfl rfl rfl rfl rfl rfl ?_) | ((refine i_cons ?_); first | refine k_len rfl hol ?_ | refine k_mv rfl ?_ | refine k_lssF rfl rfl (by omega) ?_))
    exact w_roundX ⟨rfl, rfl, _, _, rfl⟩
end
end Go.Proofs.YtehnalbdfnmphaaDoor
