/- Contracts of the leaves: Turn, outgoing, and their references. -/
import Derived.Test.YtehnalbdfnmphaaDoorCode
import Derived.Test.YtehnalbdfnmphaaDoorAb23
namespace Go.Proofs.YtehnalbdfnmphaaDoor
open Go.Ab
set_option linter.unusedVariables false
set_option maxRecDepth 20000
set_option maxHeartbeats 2000000
variable {HK : FuncId → Option Hook}

theorem rem_nat (h k : Nat) : ((h : Int).tmod (k : Int)) = ((h % k : Nat) : Int) := by
  rw [Int.tmod_eq_emod_of_nonneg (by omega)]; rfl
theorem quo_nat (h k : Nat) : ((h : Int).tdiv (k : Int)) = ((h / k : Nat) : Int) := by
  rw [Int.tdiv_eq_ediv_of_nonneg (by omega)]; rfl

/-- The half-edge k slots further at the same crossing. -/
def turnN (h k : Nat) : Nat := h - h % 4 + (h % 4 + k) % 4

/-- What is handed on: a number that hangs on no memory, and memory as it was. -/
def IsN (n : Int) (h0 : Heap) (v : AV) (h' : Heap) : Prop := v = .sc (.int .i64 n) ∧ h' = h0
def IsB (b : Bool) (h0 : Heap) (v : AV) (h' : Heap) : Prop := v = .sc (.bool b) ∧ h' = h0

theorem call63 (hk : HK 63 = none) (h0 : Heap) (h k : Nat) (b : Int) (hh : h < 1000000) (hk4 : k < 4) (hb : b.tmod 4 = k ∨ b.tmod 4 = (k : Int) - 4) :
    ∃ v h', Cal FT HK 63 [.sc (.int .i64 h), .sc (.int .i64 b)] h0 v h' ∧ IsN (turnN h k) h0 v h' := by
  refine Cal.of (F := a63) hk rfl rfl ?_
  refine w_seq (w_ops ?_)
  refine op_ok rfl rfl rfl ?_
  refine w_end (keep_c rfl (keep_c rfl (keep_nil _))) (w_seqN (w_seq (w_seq (w_ops ?_))))
  refine op_ok rfl rfl rfl ?_
  refine op_test_f rfl rfl rfl (by simp) ?_
  refine w_end (keep_c rfl (keep_c rfl (keep_c rfl (keep_nil _)))) (w_seqN (w_condF rfl (w_skip (w_seqN (w_seq (w_ops ?_))))))
  refine op_ok rfl rfl rfl ?_
  refine op_ok rfl rfl rfl ?_
  refine op_eq rfl rfl rfl (y := .int .i64 ((h % 4 : Nat) : Int)) (by rw [← rem_nat]; rfl) ?_
  refine op_wrap rfl rfl rfl (by omega) ?_
  refine op_ok rfl rfl rfl ?_
  refine op_eq rfl rfl rfl (y := .int .i64 ((h % 4 : Nat) : Int)) (by rw [← rem_nat]; rfl) ?_
  refine op_ok rfl rfl rfl ?_
  refine op_ok rfl rfl rfl ?_
  refine op_wrap rfl rfl rfl (by rcases hb with hb | hb <;> rw [hb] <;> omega) ?_
  refine op_wrap rfl rfl rfl (by rcases hb with hb | hb <;> rw [hb] <;> omega) ?_
  refine op_eq rfl rfl rfl (y := .int .i64 (((h % 4 + k) % 4 : Nat) : Int)) ?_ ?_
  · congr 1
    rcases hb with hb | hb <;> rw [hb]
    · rw [show ((h % 4 : Nat) : Int) + (k : Int) + 4 = ((h % 4 + k + 4 : Nat) : Int) by omega, show (4 : Int) = ((4 : Nat) : Int) from rfl, rem_nat]; omega
    · rw [show ((h % 4 : Nat) : Int) + ((k : Int) - 4) + 4 = ((h % 4 + k : Nat) : Int) by omega, show (4 : Int) = ((4 : Nat) : Int) from rfl, rem_nat]
  refine op_wrap rfl rfl rfl (by omega) ?_
  refine op_ok rfl rfl rfl ?_
  refine w_end (keep_c rfl (keep_nil _)) (w_seqN (w_ret ?_))
  refine ⟨.inr rfl, ?_, rfl⟩
  show AV.sc (.int .i64 (((h : Int) - ((h % 4 : Nat) : Int)) + (((h % 4 + k) % 4 : Nat) : Int))) = _
  unfold turnN
  congr 2
  omega

theorem call81 (hk : HK 81 = none) (h0 : Heap) (h k : Nat) (b : Int) (hh : h < 1000000) (hk4 : k < 4) (hb : b.tmod 4 = k ∨ b.tmod 4 = (k : Int) - 4) :
    ∃ v h', Cal FT HK 81 [.sc (.int .i64 h), .sc (.int .i64 b)] h0 v h' ∧ IsN (turnN h k) h0 v h' := by
  refine Cal.of (F := a81) hk rfl rfl ?_
  refine w_seq (w_ops ?_)
  refine op_ok rfl rfl rfl ?_
  refine w_end (keep_c rfl (keep_c rfl (keep_nil _))) (w_seqN (w_seq (w_seq (w_ops ?_))))
  refine op_ok rfl rfl rfl ?_
  refine op_test_f rfl rfl rfl (by simp) ?_
  refine w_end (keep_c rfl (keep_c rfl (keep_c rfl (keep_nil _)))) (w_seqN (w_condF rfl (w_skip (w_seqN (w_seq (w_ops ?_))))))
  refine op_ok rfl rfl rfl ?_
  refine op_ok rfl rfl rfl ?_
  refine op_eq rfl rfl rfl (y := .int .i64 ((h % 4 : Nat) : Int)) (by rw [← rem_nat]; rfl) ?_
  refine op_wrap rfl rfl rfl (by omega) ?_
  refine op_ok rfl rfl rfl ?_
  refine op_eq rfl rfl rfl (y := .int .i64 ((h % 4 : Nat) : Int)) (by rw [← rem_nat]; rfl) ?_
  refine op_ok rfl rfl rfl ?_
  refine op_ok rfl rfl rfl ?_
  refine op_wrap rfl rfl rfl (by rcases hb with hb | hb <;> rw [hb] <;> omega) ?_
  have hlow : ∃ z : Int, (((h % 4 : Nat) : Int) + b.tmod 4).tmod 4 = z ∧ -3 ≤ z ∧ z ≤ 6 ∧ (z + 4).tmod 4 = (((h % 4 + k) % 4 : Nat) : Int) := by
    rcases hb with hb | hb <;> rw [hb]
    · refine ⟨_, rfl, ?_⟩
      rw [show ((h % 4 : Nat) : Int) + (k : Int) = ((h % 4 + k : Nat) : Int) by omega, show (4 : Int) = ((4 : Nat) : Int) from rfl, rem_nat]
      refine ⟨by omega, by omega, ?_⟩
      rw [show (((h % 4 + k) % 4 : Nat) : Int) + ((4 : Nat) : Int) = (((h % 4 + k) % 4 + 4 : Nat) : Int) by omega, rem_nat]; omega
    · refine ⟨_, rfl, ?_⟩
      have hx : h % 4 < 4 := by omega
      generalize h % 4 = x at *
      have hx2 : x = 0 ∨ x = 1 ∨ x = 2 ∨ x = 3 := by omega
      have hk2 : k = 0 ∨ k = 1 ∨ k = 2 ∨ k = 3 := by omega
      rcases hx2 with rfl | rfl | rfl | rfl <;> rcases hk2 with rfl | rfl | rfl | rfl <;> decide
  obtain ⟨z, hz, hz1, hz2, hz3⟩ := hlow
  refine op_eq rfl rfl rfl (y := .int .i64 z) (by rw [← hz]) ?_
  refine op_wrap rfl rfl rfl (by omega) ?_
  refine op_eq rfl rfl rfl (y := .int .i64 (((h % 4 + k) % 4 : Nat) : Int)) (by rw [← hz3]) ?_
  refine op_wrap rfl rfl rfl (by omega) ?_
  refine op_ok rfl rfl rfl ?_
  refine w_end (keep_c rfl (keep_nil _)) (w_seqN (w_ret ?_))
  refine ⟨.inr rfl, ?_, rfl⟩
  show AV.sc (.int .i64 (((h : Int) - ((h % 4 : Nat) : Int)) + (((h % 4 + k) % 4 : Nat) : Int))) = _
  unfold turnN
  congr 2
  omega

/-- Whether half-edge h is outgoing. -/
def outB (xs : List Int) (h : Nat) : Bool := (h % 4 == 1 && xs.getD (h / 4) 0 == 1) || h % 4 == 2 || (h % 4 == 3 && xs.getD (h / 4) 0 == -1)

/-- The answer, and what was there still there. -/
def ToB (b : Bool) (h0 : Heap) (v : AV) (h' : Heap) : Prop := (∃ t, h' = h0 ++ t) ∧ v = .sc (.bool b)

theorem getD_at {xs : List Int} {i : Nat} {x : Int} (hx : xs[i]? = some x) : xs.getD i 0 = x := by simp [List.getD, hx]

theorem rd_box {h : Heap} {cs : List SV} {k : Nat} {x : SV} (hx : cs[k]? = some x) : readN (h ++ [.cells cs true 0]) h.length k 1 = some [x] := rd_last hx

theorem call34 (hk : HK 34 = none) (h0 : Heap) (s : SV) (xs : List Int) (hs : IsInts h0 s xs) (h : Nat) (hh : h < 4 * xs.length) (hn : xs.length ≤ 1000) :
    ∃ v h', Cal FT HK 34 [.sc s, .sc (.int .i64 h)] h0 v h' ∧ IsB (outB xs h) h0 v h' := by
  obtain ⟨x, hx⟩ : ∃ x, xs[h / 4]? = some x := ⟨_, List.getElem?_eq_getElem (by omega)⟩
  obtain ⟨id, off, cap, rfl, hr⟩ := IsInts.at hs hx
  have hgd := getD_at hx
  have hr2 : readN h0 id (off + ((h / 4 : Nat) : Int).toNat * 1) 1 = some [.int .i64 x] := by rw [Int.toNat_natCast]; exact hr
  refine Cal.of (F := a34) hk rfl rfl ?_
  refine w_seq (w_ops ?_)
  refine op_ok rfl rfl rfl ?_
  refine w_end (keep_c rfl (keep_c rfl (keep_nil _))) (w_seqN (w_seq (w_seq (w_ops ?_))))
  refine op_ok rfl rfl rfl ?_
  refine op_eq rfl rfl rfl (y := .int .i64 ((h % 4 : Nat) : Int)) (by rw [← rem_nat]; rfl) ?_
  refine w_end (keep_c rfl (keep_c rfl (keep_c rfl (keep_nil _)))) (w_seqN (w_blk (w_seq (w_ops ?_))))
  refine op_test rfl rfl rfl (fun c1 => ?_) (fun c1 => ?_)
  ·
    refine op_ok rfl rfl rfl ?_
    refine w_end (keep_c rfl (keep_c rfl (keep_c rfl (keep_c rfl (keep_nil _))))) (w_seqN (w_condT rfl (w_seq (w_ops ?_))))
    refine op_ok rfl rfl rfl ?_
    refine w_end (keep_c rfl (keep_nil _)) (w_seqN (w_ret ?_))
    refine ⟨.inr rfl, ?_, rfl⟩
    have : h % 4 = 2 := by have := eq_of_beq c1; omega
    show AV.sc (.bool true) = _
    simp [outB, this]
  have n1 : h % 4 ≠ 2 := fun he => by rw [he] at c1; simp at c1
  refine op_ok rfl rfl rfl ?_
  refine w_end (keep_c rfl (keep_c rfl (keep_c rfl (keep_c rfl (keep_nil _))))) (w_seqN (w_condF rfl (w_seq (w_ops ?_))))
  refine op_test rfl rfl rfl (fun c2 => ?_) (fun c2 => ?_)
  ·
    have e2 : h % 4 = 1 := by have := eq_of_beq c2; omega
    refine op_ok rfl rfl rfl ?_
    refine w_end (keep_c rfl (keep_c rfl (keep_c rfl (keep_c rfl (keep_nil _))))) (w_seqN (w_condT rfl (w_seq (w_ops ?_))))
    refine op_ok rfl rfl rfl ?_
    refine op_ok rfl rfl rfl ?_
    refine op_eq rfl rfl rfl (y := .int .i64 ((h / 4 : Nat) : Int)) (by rw [← quo_nat, wrapI, wrap_in]; rfl; rw [show (4 : Int) = ((4 : Nat) : Int) from rfl, quo_nat]; omega) ?_
    refine op_idxA rfl rfl rfl ⟨by omega, by omega⟩ ?_
    refine op_ld rfl rfl hr2 ?_
    refine op_ok rfl rfl rfl ?_
    refine op_ok rfl rfl rfl ?_
    refine w_end (keep_c rfl (keep_nil _)) (w_seqN (w_ret ?_))
    refine ⟨.inr rfl, ?_, rfl⟩
    show AV.sc (.bool (x == 1)) = _
    unfold outB
    rw [hgd, e2]
    simp
  have n2 : h % 4 ≠ 1 := fun he => by rw [he] at c2; simp at c2
  refine op_ok rfl rfl rfl ?_
  refine w_end (keep_c rfl (keep_c rfl (keep_c rfl (keep_c rfl (keep_nil _))))) (w_seqN (w_condF rfl (w_seq (w_ops ?_))))
  refine op_test rfl rfl rfl (fun c3 => ?_) (fun c3 => ?_)
  ·
    have e3 : h % 4 = 3 := by have := eq_of_beq c3; omega
    refine op_ok rfl rfl rfl ?_
    refine w_end (keep_c rfl (keep_c rfl (keep_c rfl (keep_nil _)))) (w_seqN (w_condT rfl (w_seq (w_ops ?_))))
    refine op_ok rfl rfl rfl ?_
    refine op_ok rfl rfl rfl ?_
    refine op_eq rfl rfl rfl (y := .int .i64 ((h / 4 : Nat) : Int)) (by rw [← quo_nat, wrapI, wrap_in]; rfl; rw [show (4 : Int) = ((4 : Nat) : Int) from rfl, quo_nat]; omega) ?_
    refine op_idxA rfl rfl rfl ⟨by omega, by omega⟩ ?_
    refine op_ld rfl rfl hr2 ?_
    refine op_ok rfl rfl rfl ?_
    refine op_ok rfl rfl rfl ?_
    refine w_end (keep_c rfl (keep_nil _)) (w_seqN (w_ret ?_))
    refine ⟨.inr rfl, ?_, rfl⟩
    show AV.sc (.bool (x == -1)) = _
    unfold outB
    rw [hgd, e3]
    simp
  have n3 : h % 4 ≠ 3 := fun he => by rw [he] at c3; simp at c3
  refine op_ok rfl rfl rfl ?_
  refine w_end (keep_c rfl (keep_c rfl (keep_c rfl (keep_nil _)))) (w_seqN (w_condF rfl (w_skip (w_blkN (w_seqN (w_seq (w_ops ?_)))))))
  refine op_ok rfl rfl rfl ?_
  refine w_end (keep_c rfl (keep_nil _)) (w_seqN (w_ret ?_))
  refine ⟨.inr rfl, ?_, rfl⟩
  show AV.sc (.bool false) = _
  simp [outB, n1, n2, n3]

theorem call42 (hk : HK 42 = none) (h0 : Heap) (s m l : SV) (xs : List Int) (hs : IsInts h0 s xs) (h : Nat) (hh : h < 4 * xs.length) (hn : xs.length ≤ 1000) :
    ∃ v h', Cal FT HK 42 [.agg [s, m, l], .sc (.int .i64 h)] h0 v h' ∧ ToB (outB xs h) h0 v h' := by
  obtain ⟨x, hx⟩ : ∃ x, xs[h / 4]? = some x := ⟨_, List.getElem?_eq_getElem (by omega)⟩
  obtain ⟨id, off, cap, rfl, hr⟩ := IsInts.at (IsSl.mono hs (mono_app (t := [.cells [s, m, l] true 0]))) hx
  have hgd := getD_at hx
  have hr2 : readN (h0 ++ [.cells [.slc id off xs.length cap, m, l] true 0]) id (off + ((h / 4 : Nat) : Int).toNat * 1) 1 = some [.int .i64 x] := by rw [Int.toNat_natCast]; exact hr
  have hbx : readN (h0 ++ [.cells [.slc id off xs.length cap, m, l] true 0]) h0.length (0 + 0) 1 = some [.slc id off xs.length cap] := rd_last rfl
  refine Cal.of (F := a42) hk rfl rfl ?_
  refine w_seq (w_ops ?_)
  refine op_ok rfl rfl rfl ?_
  refine op_ok rfl rfl rfl ?_
  refine w_end (keep_c rfl (keep_c rfl (keep_nil _))) (w_seqN (w_seq (w_seq (w_ops ?_))))
  refine op_ok rfl rfl rfl ?_
  refine op_eq rfl rfl rfl (y := .int .i64 ((h % 4 : Nat) : Int)) (by rw [← rem_nat]; rfl) ?_
  refine w_end (keep_c rfl (keep_c rfl (keep_c rfl (keep_nil _)))) (w_seqN (w_blk (w_seq (w_ops ?_))))
  refine op_test rfl rfl rfl (fun c1 => ?_) (fun c1 => ?_)
  ·
    have e1 : h % 4 = 1 := by have := eq_of_beq c1; omega
    refine op_ok rfl rfl rfl ?_
    refine w_end (keep_c rfl (keep_c rfl (keep_c rfl (keep_c rfl (keep_nil _))))) (w_seqN (w_condT rfl (w_seq (w_ops ?_))))
    refine op_ok rfl rfl rfl ?_
    refine op_ld rfl rfl hbx ?_
    refine op_ok rfl rfl rfl ?_
    refine op_eq rfl rfl rfl (y := .int .i64 ((h / 4 : Nat) : Int)) (by rw [← quo_nat, wrapI, wrap_in]; rfl; rw [show (4 : Int) = ((4 : Nat) : Int) from rfl, quo_nat]; omega) ?_
    refine op_idxA rfl rfl rfl ⟨by omega, by omega⟩ ?_
    refine op_ld rfl rfl hr2 ?_
    refine op_ok rfl rfl rfl ?_
    refine op_ok rfl rfl rfl ?_
    refine w_end (keep_c rfl (keep_nil _)) (w_seqN (w_ret ?_))
    refine ⟨.inr rfl, ⟨_, rfl⟩, ?_⟩
    show AV.sc (.bool (x == 1)) = _
    unfold outB
    rw [hgd, e1]
    simp
  have n1 : h % 4 ≠ 1 := fun he => by rw [he] at c1; simp at c1
  refine op_ok rfl rfl rfl ?_
  refine w_end (keep_c rfl (keep_c rfl (keep_c rfl (keep_c rfl (keep_nil _))))) (w_seqN (w_condF rfl (w_seq (w_ops ?_))))
  refine op_test rfl rfl rfl (fun c2 => ?_) (fun c2 => ?_)
  ·
    have e2 : h % 4 = 2 := by have := eq_of_beq c2; omega
    refine op_ok rfl rfl rfl ?_
    refine w_end (keep_c rfl (keep_c rfl (keep_c rfl (keep_c rfl (keep_nil _))))) (w_seqN (w_condT rfl (w_seq (w_ops ?_))))
    refine op_ok rfl rfl rfl ?_
    refine w_end (keep_c rfl (keep_nil _)) (w_seqN (w_ret ?_))
    refine ⟨.inr rfl, ⟨_, rfl⟩, ?_⟩
    show AV.sc (.bool true) = _
    simp [outB, e2]
  have n2 : h % 4 ≠ 2 := fun he => by rw [he] at c2; simp at c2
  refine op_ok rfl rfl rfl ?_
  refine w_end (keep_c rfl (keep_c rfl (keep_c rfl (keep_c rfl (keep_nil _))))) (w_seqN (w_condF rfl (w_seq (w_ops ?_))))
  refine op_test rfl rfl rfl (fun c3 => ?_) (fun c3 => ?_)
  ·
    have e3 : h % 4 = 3 := by have := eq_of_beq c3; omega
    refine op_ok rfl rfl rfl ?_
    refine w_end (keep_c rfl (keep_c rfl (keep_c rfl (keep_nil _)))) (w_seqN (w_condT rfl (w_seq (w_ops ?_))))
    refine op_ok rfl rfl rfl ?_
    refine op_ld rfl rfl hbx ?_
    refine op_ok rfl rfl rfl ?_
    refine op_eq rfl rfl rfl (y := .int .i64 ((h / 4 : Nat) : Int)) (by rw [← quo_nat, wrapI, wrap_in]; rfl; rw [show (4 : Int) = ((4 : Nat) : Int) from rfl, quo_nat]; omega) ?_
    refine op_idxA rfl rfl rfl ⟨by omega, by omega⟩ ?_
    refine op_ld rfl rfl hr2 ?_
    refine op_ok rfl rfl rfl ?_
    refine op_ok rfl rfl rfl ?_
    refine w_end (keep_c rfl (keep_nil _)) (w_seqN (w_ret ?_))
    refine ⟨.inr rfl, ⟨_, rfl⟩, ?_⟩
    show AV.sc (.bool (x == -1)) = _
    unfold outB
    rw [hgd, e3]
    simp
  have n3 : h % 4 ≠ 3 := fun he => by rw [he] at c3; simp at c3
  refine op_ok rfl rfl rfl ?_
  refine w_end (keep_c rfl (keep_c rfl (keep_c rfl (keep_nil _)))) (w_seqN (w_condF rfl (w_skip (w_blkN (w_seqN (w_seq (w_ops ?_)))))))
  refine op_ok rfl rfl rfl ?_
  refine w_end (keep_c rfl (keep_nil _)) (w_seqN (w_ret ?_))
  refine ⟨.inr rfl, ⟨_, rfl⟩, ?_⟩
  show AV.sc (.bool false) = _
  simp [outB, n1, n2, n3]

end Go.Proofs.YtehnalbdfnmphaaDoor
