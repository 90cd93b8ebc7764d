/- The reference's Parse: the mates of all half-edges. -/
import Derived.Test.YtehnalbdfnmphaaDoorPQ4
namespace Go.Proofs.YtehnalbdfnmphaaDoor
open Go.Ab
set_option linter.unusedVariables false
set_option linter.unusedSimpArgs false
set_option maxRecDepth 20000
set_option maxHeartbeats 4000000
attribute [local irreducible] wOps wA wSeq wBlk wRound wRoundI wOpsD

section
variable (h0 T0 T : Heap) (o o2 : SV) (l : Int) (S Lb : List Int)
/-- Those below h have their mates. -/
def MtB (S Lb M : List Int) (h : Nat) : Prop := M.length = Lb.length ∧ ∀ h', h' < h → ∃ g : Nat, Mt S Lb Lb.length h' g ∧ M[h']? = some (g : Int)
theorem MtB.next {M : List Int} {h g : Nat} (hM : MtB S Lb M h) (hh : h < Lb.length) (hf : fm Lb h Lb.length = [g]) (ho : outB S g ≠ outB S h) : MtB S Lb (Mg Lb M h Lb.length) (h + 1) := by
  have e : Mg Lb M h Lb.length = M.set h (g : Nat) := by unfold Mg; rw [hf]; rfl
  rw [e]
  refine ⟨by rw [List.length_set]; exact hM.1, fun h' hh' => ?_⟩
  by_cases c : h' = h
  · subst c
    exact ⟨g, fm_one hf ho, by rw [List.getElem?_set_self (by rw [hM.1]; exact hh)]⟩
  · obtain ⟨g', a, b⟩ := hM.2 h' (by omega)
    exact ⟨g', a, by rw [List.getElem?_set_ne (fun e => c e.symm), b]⟩
theorem MtB.all {M : List Int} (hM : MtB S Lb M Lb.length) : M = mtL S Lb Lb.length ∧ MA S Lb Lb.length := by
  refine ⟨List.ext_getElem? fun x => ?_, MR.ma fun h hh => ?_⟩
  · rcases Nat.lt_or_ge x Lb.length with hx | hx
    · obtain ⟨g, a, b⟩ := hM.2 x hx
      rw [b, mtL_get hx a]
    · rw [List.getElem?_eq_none (by rw [hM.1]; exact hx), List.getElem?_eq_none (by rw [mtL_len]; exact hx)]
  · obtain ⟨g, a, -⟩ := hM.2 h hh
    exact ⟨g, a⟩
def I23h (E : Env) (hp : Heap) : Prop := ∃ (h : Nat) (M : List Int), h ≤ Lb.length ∧ MtB S Lb M h ∧ hp = GM h0 T0 T o l Lb M ∧
  E = [(2, some (.sc (.ptr (h0.length + 0) 0))), (6, some (.sc (.ptr ((HH h0 T0).length + 0) 0))), (7, some (.sc o2)), (11, some (.sc (.int .i64 (h : Nat))))]
def R23h (ex : Ex) (E : Env) (hp : Heap) : Prop := match ex with
  | .rt => ¬ MA S Lb Lb.length ∧ (∃ V, hp = h0 ++ (R0 :: V)) ∧ E = [(2, some (.sc (.ptr (h0.length + 0) 0))), (3, some (.sc (.int .i64 3)))]
  | .ex z => z = 2 ∧ MA S Lb Lb.length ∧ hp = GM h0 T0 T o l Lb (mtL S Lb Lb.length) ∧ ∃ a b c,
    E = [(2, some (.sc (.ptr (h0.length + 0) 0))), (6, some (.sc (.ptr ((HH h0 T0).length + 0) 0))), (7, a), (11, b), (102, c)]
  | .nm => False
theorem round23h (hL : ∀ M, IsInts (GM h0 T0 T o l Lb M) o2 Lb) (hS : ∀ M, IsInts (GM h0 T0 T o l Lb M) o S) (hsg : ∀ x ∈ S, Sgn x) (hn : S.length ≤ 64) (h4 : Lb.length = 4 * S.length) (E : Env) (hp : Heap) (hI : I23h h0 T0 T o o2 l S Lb E hp) :
    wA FT HKt b23L1 (E.keep [2, 6, 7, 11]) hp (wRound (I23h h0 T0 T o o2 l S Lb) (cntV Lb.length 11) (cntV Lb.length 11 E hp) (R23h h0 T0 T o l S Lb)) := by
  obtain ⟨h, M, hh, hM, rfl, rfl⟩ := hI
  have hol : lenS false o2 = some (Lb.length : Int) := IsSl.len (hL M)
  by_cases hlt : h < Lb.length
  · repeat' (first | refine w_seq ?_ | refine w_seqN ?_ | refine w_blk ?_ | refine w_skip ?_ | refine w_ops ?_ | ((refine i_cond ?_); refine w_condT rfl ?_) | ((refine i_nil ?_); first | refine w_end5 rfl rfl rfl rfl rfl ?_ | refine w_end6 rfl rfl rfl rfl rfl rfl ?_) | ((refine i_cons ?_); first | refine k_len rfl hol ?_ | refine k_mv rfl ?_ | refine k_lssT rfl rfl (by omega) ?_))
    refine w_loop (I23g h0 T0 T o o2 l Lb h M) (cntV Lb.length 13) (R23g h0 T0 T o o2 l Lb h M) ⟨0, by omega, rfl, rfl⟩ (round23g h0 T0 T o o2 l Lb hL (by omega) h hlt M hM.1) ?_
    rintro ex E' h' ⟨rfl, rfl, a, b, rfl⟩
    have hfl := fm_len Lb h Lb.length
    have hml := Mg_len Lb M h Lb.length
    by_cases c1 : (fm Lb h Lb.length).length = 1
    · obtain ⟨g, hf⟩ : ∃ g, fm Lb h Lb.length = [g] := by
        match fm Lb h Lb.length, c1 with
        | [g], _ => exact ⟨g, rfl⟩
      have hgl : g < Lb.length := ((fm_mem (Lb := Lb) (h := h) (g := Lb.length) (x := g)).1 (by rw [hf]; simp)).1
      have hMg : (Mg Lb M h Lb.length)[h]? = some ((g : Nat) : Int) := by
        unfold Mg; rw [hf]
        simp only [List.getLast?_singleton]
        rw [List.getElem?_set_self (by rw [hM.1]; exact hlt)]
      rw [c1]
      generalize hMM : Mg Lb M h Lb.length = M' at hMg hml ⊢
      have hrd : ∀ {b : Blk} {j : Int}, j = (h : Nat) → readN (b :: (T ++ [EX M'])) (T.length + 1) (0 + j.toNat * 1) 1 = some [.int .i64 (g : Nat)] := fun {b j} hj => by
        subst hj
        rw [Int.toNat_natCast]
        exact rdI (by simp : (b :: (T ++ [EX M']))[T.length + 1]? = some (EX M')) hMg
      have k1 := call34 (HK := HKt) rfl (GM h0 T0 T o l Lb M') o S (hS M') h (by omega) (by omega)
      have k2 := call34 (HK := HKt) rfl (GM h0 T0 T o l Lb M') o S (hS M') g (by omega) (by omega)
      cases oh : outB S h <;> cases og : outB S g
      all_goals
        rw [oh] at k1
        rw [og] at k2
      case' false.false | true.true =>
        have hbad : ¬ MA S Lb Lb.length := by
          rw [h4]
          exact no_mate (h := h) hsg (by omega) (fun g' hg' => by
            rw [← h4, hf] at hg'
            simp only [List.cons.injEq, and_true] at hg'
            rw [← hg', oh, og])
      case' false.false | true.true =>
        repeat' (first | refine w_seq ?_ | refine w_seqN ?_ | refine w_seqR ?_ | refine w_blkX ?_ | refine w_blkR ?_ | refine w_ret ?_ | refine w_ops ?_ | refine w_opsD ?_ | refine d_one ?_ | refine d_nil ?_ | ((refine i_cond ?_); refine w_condT rfl ?_) | ((refine i_nil ?_); first | refine d_same ?_ | refine w_end2 rfl rfl ?_ | refine w_end5 rfl rfl rfl rfl rfl ?_) | ((refine i_cons ?_); first | refine k_fldA rfl ?_ | refine k_ldL rfl rfl ?_ | refine k_idxA (j := (h : Int)) rfl rfl (by omega) ?_ | refine k_ldL rfl (hrd rfl) ?_ | (refine k_call rfl k1 ?_; rintro v h3 ⟨rfl, rfl⟩) | (refine k_call rfl k2 ?_; rintro v h3 ⟨rfl, rfl⟩) | refine k_beq rfl rfl ?_ | refine k_stR rfl rfl ?_ | refine k_want rfl ?_ | refine k_mv rfl ?_ | refine k_pickF rfl rfl ?_ | refine k_neqF rfl rfl (by omega) ?_ | refine k_ok rfl rfl ?_))
        exact w_roundR ⟨hbad, ⟨_, rfl⟩, rfl⟩
      case' false.true | true.false =>
        have hnx := MtB.next S Lb hM hlt hf (by rw [oh, og]; decide)
        rw [hMM] at hnx
        repeat' (first | refine w_seq ?_ | refine w_seqN ?_ | refine w_blkN ?_ | refine w_blkX ?_ | refine w_skip ?_ | refine w_ops ?_ | refine w_opsD ?_ | refine d_one ?_ | refine d_nil ?_ | ((refine i_cond ?_); refine w_condF rfl ?_) | ((refine i_nil ?_); first | refine d_same ?_ | refine w_end4 rfl rfl rfl rfl ?_ | refine w_end5 rfl rfl rfl rfl rfl ?_) | ((refine i_cons ?_); first | refine k_fldA rfl ?_ | refine k_ldL rfl rfl ?_ | refine k_idxA (j := (h : Int)) rfl rfl (by omega) ?_ | refine k_ldL rfl (hrd rfl) ?_ | (refine k_call rfl k1 ?_; rintro v h3 ⟨rfl, rfl⟩) | (refine k_call rfl k2 ?_; rintro v h3 ⟨rfl, rfl⟩) | refine k_beq rfl rfl ?_ | refine k_want rfl ?_ | refine k_mv rfl ?_ | refine k_pickF rfl rfl ?_ | refine k_add rfl rfl (by omega) ?_ | refine k_neqF rfl rfl (by omega) ?_))
        exact w_roundN ⟨h + 1, M', by omega, hnx, rfl, rfl⟩ (by simp [cntV, Env.get]; omega)
    · have hbad : ¬ MA S Lb Lb.length := by
        rw [h4]
        exact no_mate (h := h) hsg (by omega) (fun g hg => by rw [← h4] at hg; rw [hg] at c1; exact absurd rfl c1)
      repeat' (first | refine w_seq ?_ | refine w_seqN ?_ | refine w_seqR ?_ | refine w_blkX ?_ | refine w_blkR ?_ | refine w_ret ?_ | refine w_ops ?_ | refine w_opsD ?_ | refine d_one ?_ | refine d_nil ?_ | ((refine i_cond ?_); refine w_condT rfl ?_) | ((refine i_nil ?_); first | refine d_same ?_ | refine w_end2 rfl rfl ?_ | refine w_end5 rfl rfl rfl rfl rfl ?_) | ((refine i_cons ?_); first | refine k_stR rfl rfl ?_ | refine k_skip rfl ?_ | refine k_mv rfl ?_ | refine k_pickT rfl rfl ?_ | refine k_neqT rfl rfl (by omega) ?_ | refine k_ok rfl rfl ?_))
      exact w_roundR ⟨hbad, ⟨_, rfl⟩, rfl⟩
  · have : h = Lb.length := by omega
    subst this
    obtain ⟨e1, e2⟩ := hM.all
    repeat' (first | refine w_seq ?_ | refine w_seqN ?_ | refine w_seqX ?_ | refine w_exit ?_ | refine w_ops ?_ | ((refine i_cond ?_); refine w_condF rfl ?_) | ((refine i_nil ?_); refine w_end5 rfl rfl rfl rfl rfl ?_) | ((refine i_cons ?_); first | refine k_len rfl hol ?_ | refine k_mv rfl ?_ | refine k_lssF rfl rfl (by omega) ?_))
    exact w_roundX ⟨rfl, e2, by rw [e1], _, _, _, rfl⟩
end
end Go.Proofs.YtehnalbdfnmphaaDoor
