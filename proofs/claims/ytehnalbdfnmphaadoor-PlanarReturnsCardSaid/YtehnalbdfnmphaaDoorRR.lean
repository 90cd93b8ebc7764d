/- The law PlanarReturns, reckoned. -/
import Derived.Test.YtehnalbdfnmphaaDoorRP2
import Derived.Test.YtehnalbdfnmphaaDoorEQ
import Derived.Test.YtehnalbdfnmphaaDoorF4
import Derived.Test.YtehnalbdfnmphaaDoorT5
namespace Go.Proofs.YtehnalbdfnmphaaDoor
open Go.Ab
set_option linter.unusedVariables false
set_option linter.unusedSimpArgs false
set_option maxRecDepth 20000
set_option maxHeartbeats 4000000
attribute [local irreducible] wOps wA wSeq wBlk wRound wRoundI wOpsD

theorem parse_ok {h : Heap} {s : List UInt8} {xs ms : List Int} {l : Nat} (hp : parR s = .ok xs ms l) : ∃ v h', Cal FT HKt 22 [.sc (tb s)] h v h' ∧ h' = h ++ [EX xs, EX ms] ∧
    v = .tup [.agg [.slc (h.length + 0) 0 xs.length (some xs.length), .slc (h.length + 1) 0 ms.length (some ms.length), .int .i64 (l : Nat)], .sc (.int .i64 0)] :=
  ⟨_, _, Cal.hook (g := parseHook) rfl (by
    have e : (tb s : SV) = .str ⟨s.toArray⟩ := rfl
    simp only [parseHook, e, tb_data, hp]), rfl, rfl⟩
theorem parse_err {h : Heap} {s : List UInt8} {e : Nat} (hp : parR s = .err e) : ∃ v h', Cal FT HKt 22 [.sc (tb s)] h v h' ∧ h' = h ∧ v = .tup [.agg [.nilS, .nilS, .int .i64 0], .sc (.int .i64 (e : Nat))] :=
  ⟨_, _, Cal.hook (g := parseHook) rfl (by
    have e : (tb s : SV) = .str ⟨s.toArray⟩ := rfl
    simp only [parseHook, e, tb_data, hp]), rfl, rfl⟩
theorem labs_R {xs ms : List Int} {l : Int} (hF : Front xs ms l) : LabR (labs xs ms) (4 * xs.length) := fun g hg => by
  have := labs_range hF (g := g) (by rw [hF.four]; exact hg)
  omega
theorem labs_len {xs ms : List Int} {l : Int} (hF : Front xs ms l) : (labs xs ms).length = 4 * xs.length := by
  rw [← hF.four]; exact lbK_len _ _ _
theorem txt_len {xs ms : List Int} {l : Int} (hF : Front xs ms l) : (txt xs (labs xs ms) l).length ≤ 65536 := by
  have h1 := txtK_len (xs := xs) (labs_mod hF) xs.length
  have h2 := itoa_len (x := l) (by have := hF.l0; have := hF.l64; omega)
  have h3 := hF.n64
  unfold txt
  simp only [List.length_append, List.length_cons, List.length_nil, loopsT]
  omega
theorem call9 (h0 : Heap) (s : SV) (xs : List Int) (hx : IsInts h0 s xs) (m : SV) (ms : List Int) (hs : IsInts h0 m ms) (l : Int) (hl : -9223372036854775808 ≤ l ∧ l ≤ 9223372036854775807) :
    ∃ v h', Cal FT HKt 9 [.agg [s, m, .int .i64 l]] h0 v h' ∧ v = .sc (.bool true) := by
  refine Cal.of (F := a9) rfl rfl rfl ?_
  repeat' (first | refine w_seq ?_ | refine w_seqN ?_ | refine w_skip ?_ | refine w_ops ?_ | ((refine i_cond ?_); refine w_condF rfl ?_) | ((refine i_nil ?_); first | refine w_end1 rfl ?_ | refine w_end2 rfl rfl ?_) | ((refine i_cons ?_); first | (refine k_box rfl rfl ?_; intro h1 e1 l1 b1) | (refine k_call rfl (awake_callT _) ?_; rintro v h2 ⟨rfl, rfl⟩) | refine k_mv rfl ?_ | refine k_notT rfl ?_))
  have k1 := call12 h2 s m l xs ms (IsSl.ext hx e1) (IsSl.ext hs e1)
  repeat' (((refine i_cons ?_); first | refine k_ldA rfl b1 rfl ?_ | (refine k_call rfl k1 ?_; rintro v h3 ⟨e3, hR⟩) | refine k_mv rfl ?_))
  have b3 := b1.ext e3
  have e13 := e1.trans e3
  rcases hR with ⟨hV, rfl⟩ | ⟨hV, rfl⟩
  · have hF := hV.1
    have hp := par_txt hV (labs_ok hF) (labs_R hF) (labs_len hF) (txt_len hF)
    have k4 := parse_ok (h := h3) hp
    rw [show ((l.toNat : Nat) : Int) = l from Int.toNat_of_nonneg hF.l0] at k4
    have e4 : Ext h3 (h3 ++ [EX xs, EX ms]) := ⟨_, rfl⟩
    repeat' (first | refine w_seq ?_ | refine w_seqN ?_ | refine w_skip ?_ | refine w_ops ?_ | ((refine i_cond ?_); refine w_condF rfl ?_) | ((refine i_nil ?_); refine w_end3 rfl rfl rfl ?_) | ((refine i_cons ?_); first | (refine k_call rfl k4 ?_; rintro v h4 ⟨rfl, rfl⟩) | (refine k_newst3 rfl ?_; intro h5 e5 b5) | refine k_want rfl ?_ | refine k_mv rfl ?_ | refine k_eqlT rfl rfl (by omega) ?_ | refine k_neqF rfl rfl (by omega) ?_ | refine k_ok rfl rfl ?_))
    have b6 := b3.ext (e4.trans e5)
    have i1 : IsInts h5 (.slc (h3.length + 0) 0 xs.length (some xs.length)) xs := IsSl.ext (exL (h0 := h3) (k := 0) rfl rfl) e5
    have i2 : IsInts h5 (.slc (h3.length + 1) 0 ms.length (some ms.length)) ms := IsSl.ext (exL (h0 := h3) (k := 1) rfl rfl) e5
    have e15 := e13.trans (e4.trans e5)
    have hn := hF.n64
    have h4 := hF.four
    have k5 := call21 h5 _ _ s m l xs ms i1 i2 (IsSl.ext hx e15) (IsSl.ext hs e15) (by omega) (by omega)
    repeat' (((refine i_cons ?_); first | refine k_ldA rfl b5 rfl ?_ | refine k_ldA rfl b6 rfl ?_ | (refine k_call rfl k5 ?_; rintro v h6 ⟨rfl, e6⟩) | refine k_want rfl ?_ | refine k_mv rfl ?_ | refine k_pickT rfl rfl ?_))
    have k6 := call20 (HK := HKt) rfl rfl rfl rfl rfl h6 _ _ l xs ms (IsSl.ext i1 e6) (IsSl.ext i2 e6)
    have b7 := b5.ext e6
    repeat' (first | refine w_seqN ?_ | refine w_ret ?_ | ((refine i_nil ?_); refine w_end1 rfl ?_) | ((refine i_cons ?_); first | refine k_ldA rfl b7 rfl ?_ | (refine k_call rfl k6 ?_; rintro v h7 ⟨e7, c7, rfl, q7⟩; obtain rfl := q7.2 hV) | refine k_want rfl ?_ | refine k_mv rfl ?_ | refine k_pickT rfl rfl ?_))
    exact ⟨.inr rfl, rfl⟩
  · have k2 := call20 (HK := HKt) rfl rfl rfl rfl rfl h3 s m l xs ms (IsSl.ext hx e13) (IsSl.ext hs e13)
    repeat' (first | refine w_seq ?_ | refine w_seqN ?_ | refine w_seqR ?_ | refine w_ret ?_ | refine w_ops ?_ | ((refine i_cond ?_); refine w_condT rfl ?_) | ((refine i_nil ?_); first | refine w_end1 rfl ?_ | refine w_end3 rfl rfl rfl ?_) | ((refine i_cons ?_); first | refine k_ldA rfl b3 rfl ?_ | (refine k_call rfl k2 ?_; rintro v h7 ⟨e7, c7, rfl, q7⟩) | refine k_mv rfl ?_ | refine k_neqT rfl rfl (by omega) ?_ | refine k_ok rfl rfl ?_))
    cases c7 with
    | true => exact absurd (q7.1 rfl) hV
    | false =>
      skip
      exact ⟨.inr rfl, rfl⟩
end Go.Proofs.YtehnalbdfnmphaaDoor
