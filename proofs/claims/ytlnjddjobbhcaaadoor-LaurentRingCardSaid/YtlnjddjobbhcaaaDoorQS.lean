/- Small arguments. -/
import Derived.Test.YtlnjddjobbhcaaaDoorPX
import Derived.Test.YtlnjddjobbhcaaaDoorT1
namespace Go.Proofs.YtlnjddjobbhcaaaDoor
open Go.Ab
set_option linter.unusedVariables false
set_option linter.unusedSimpArgs false
set_option maxRecDepth 20000
set_option maxHeartbeats 8000000
attribute [local irreducible] wOps wA wSeq wBlk wRound wRoundI wOpsD wOpsS

def smC (x : Int) : Prop := -4611686018427387904 ≤ x ∧ x ≤ 4611686018427387904
def smallP (low : Int) (xs : List Int) : Prop := xs.length ≤ 20 ∧ -100 ≤ low ∧ low ≤ 100 ∧ ∀ x ∈ xs, smC x
def I11 (h0 : Heap) (s : SV) (xs : List Int) (E : Env) (h : Heap) : Prop := h = h0 ∧ ∃ i : Nat, i ≤ xs.length ∧ (∀ x ∈ xs.take i, smC x) ∧
  E.keep [1, 5] = [(1, some (.sc s)), (5, some (.sc (.int .i64 (i : Nat))))]
def R11 (h0 : Heap) (xs : List Int) (ex : Ex) (E : Env) (h : Heap) : Prop := h = h0 ∧
  ((ex = .ex 0 ∧ (∀ x ∈ xs, smC x) ∧ ∃ a b c, E = [(1, a), (5, b), (20, c)]) ∨ (ex = .rt ∧ ¬ (∀ x ∈ xs, smC x) ∧ E = [(4, some (.sc (.int .i64 0)))]))
theorem round11 (h0 : Heap) (s : SV) (xs : List Int) (hs : IsInts h0 s xs) (hn : xs.length ≤ 20) (E : Env) (h : Heap) (hI : I11 h0 s xs E h) :
    wA FT HKt b11L0 (E.keep [1, 5]) h (wRound (I11 h0 s xs) (cK [1, 5] xs.length 5) (cK [1, 5] xs.length 5 E h) (R11 h0 xs)) := by
  obtain ⟨rfl, i, hi, hsm, hE⟩ := hI
  have hm : cK [1, 5] xs.length 5 E h = xs.length - i := by unfold cK; rw [hE]; rfl
  rw [hm, hE]
  have ls := IsSl.len hs
  by_cases hlt : i < xs.length
  · obtain ⟨x, hx⟩ : ∃ x, xs[i]? = some x := ⟨_, List.getElem?_eq_getElem hlt⟩
    have hxm := List.mem_of_getElem? hx
    obtain ⟨id, off, cap, rfl, rd⟩ := IsInts.at hs hx
    by_cases h1 : x < -4611686018427387904
    · repeat' (first | refine w_seq ?_ | refine w_seqN ?_ | refine w_seqR ?_ | refine w_blk ?_ | refine w_blkR ?_ | refine w_skip ?_ | refine w_ret ?_ | refine w_ops ?_ | ((refine i_cond ?_); refine w_condT rfl ?_) | ((refine i_nil ?_); first | refine w_end1 rfl ?_ | refine w_end3 rfl rfl rfl ?_) | ((refine i_cons ?_); first | refine k_len rfl ls ?_ | refine k_idxA (esz := 1) rfl rfl (by omega) ?_ | refine k_ld rfl rd ?_ | refine k_skip rfl ?_ | refine k_mv rfl ?_ | refine k_pickT rfl rfl ?_ | refine k_lssT rfl rfl (by omega) ?_))
      exact w_roundR ⟨rfl, .inr ⟨rfl, fun h => by have := (h x hxm).1; omega, rfl⟩⟩
    · by_cases h2 : 4611686018427387904 < x
      · repeat' (first | refine w_seq ?_ | refine w_seqN ?_ | refine w_seqR ?_ | refine w_blk ?_ | refine w_blkR ?_ | refine w_skip ?_ | refine w_ret ?_ | refine w_ops ?_ | ((refine i_cond ?_); refine w_condT rfl ?_) | ((refine i_nil ?_); first | refine w_end1 rfl ?_ | refine w_end3 rfl rfl rfl ?_) | ((refine i_cons ?_); first | refine k_len rfl ls ?_ | refine k_idxA (esz := 1) rfl rfl (by omega) ?_ | refine k_ld rfl rd ?_ | refine k_want rfl ?_ | refine k_mv rfl ?_ | refine k_pickF rfl rfl ?_ | refine k_lssT rfl rfl (by omega) ?_ | refine k_lssF rfl rfl (by omega) ?_ | refine k_gtrT rfl rfl (by omega) ?_))
        exact w_roundR ⟨rfl, .inr ⟨rfl, fun h => by have := (h x hxm).2; omega, rfl⟩⟩
      · repeat' (first | refine w_seq ?_ | refine w_seqN ?_ | refine w_blk ?_ | refine w_blkN ?_ | refine w_skip ?_ | refine w_ops ?_ | ((refine i_cond ?_); first | refine w_condT rfl ?_ | refine w_condF rfl ?_) | ((refine i_nil ?_); first | refine w_end2 rfl rfl ?_ | refine w_end3 rfl rfl rfl ?_) | ((refine i_cons ?_); first | refine k_len rfl ls ?_ | refine k_idxA (esz := 1) rfl rfl (by omega) ?_ | refine k_ld rfl rd ?_ | refine k_want rfl ?_ | refine k_mv rfl ?_ | refine k_pickF rfl rfl ?_ | refine k_add rfl rfl (by omega) ?_ | refine k_lssT rfl rfl (by omega) ?_ | refine k_lssF rfl rfl (by omega) ?_ | refine k_gtrF rfl rfl (by omega) ?_))
        refine w_roundN ⟨rfl, i + 1, by omega, fun y hy => ?_, rfl⟩ (by simp [cK, Env.keep, Env.get]; omega)
        rw [List.take_add_one, hx] at hy
        rcases List.mem_append.1 hy with hy | hy
        · exact hsm y hy
        · simp at hy; subst hy; exact ⟨by omega, by omega⟩
  · have : i = xs.length := by omega
    subst this
    rw [List.take_length] at hsm
    repeat' (first | refine w_seq ?_ | refine w_seqN ?_ | refine w_seqX ?_ | refine w_exit ?_ | refine w_ops ?_ | ((refine i_cond ?_); refine w_condF rfl ?_) | ((refine i_nil ?_); refine w_end3 rfl rfl rfl ?_) | ((refine i_cons ?_); first | refine k_len rfl ls ?_ | refine k_mv rfl ?_ | refine k_lssF rfl rfl (by omega) ?_))
    exact w_roundX ⟨rfl, .inl ⟨rfl, hsm, _, _, _, rfl⟩⟩
open Classical in
theorem call11 (h0 : Heap) (low : Int) (s : SV) (xs : List Int) (hs : IsInts h0 s xs) : ∃ r h', Cal FT HKt 11 [.sc (.int .i64 low), .sc s] h0 r h' ∧ h' = h0 ∧ r = .sc (.int .i64 (if smallP low xs then 1 else 0)) := by
  refine Cal.of (F := a11) rfl rfl rfl ?_
  have ls := IsSl.len hs
  by_cases h1 : 20 < xs.length
  · rw [if_neg fun h => by have := h.1; omega]
    repeat' (first | refine w_seq ?_ | refine w_seqN ?_ | refine w_seqR ?_ | refine w_ret ?_ | refine w_ops ?_ | ((refine i_cond ?_); refine w_condT rfl ?_) | ((refine i_nil ?_); first | refine w_end1 rfl ?_ | refine w_end2 rfl rfl ?_) | ((refine i_cons ?_); first | refine k_len rfl ls ?_ | refine k_skip rfl ?_ | refine k_mv rfl ?_ | refine k_pickT rfl rfl ?_ | refine k_gtrT rfl rfl (by omega) ?_))
    exact ⟨.inr rfl, rfl, rfl⟩
  by_cases h2 : low < -100
  · rw [if_neg fun h => by have := h.2.1; omega]
    repeat' (first | refine w_seq ?_ | refine w_seqN ?_ | refine w_seqR ?_ | refine w_ret ?_ | refine w_ops ?_ | ((refine i_cond ?_); refine w_condT rfl ?_) | ((refine i_nil ?_); first | refine w_end1 rfl ?_ | refine w_end2 rfl rfl ?_) | ((refine i_cons ?_); first | refine k_len rfl ls ?_ | refine k_skip rfl ?_ | refine k_want rfl ?_ | refine k_mv rfl ?_ | refine k_pickT rfl rfl ?_ | refine k_pickF rfl rfl ?_ | refine k_lssT rfl rfl (by omega) ?_ | refine k_gtrF rfl rfl (by omega) ?_))
    exact ⟨.inr rfl, rfl, rfl⟩
  by_cases h3 : 100 < low
  · rw [if_neg fun h => by have := h.2.2.1; omega]
    repeat' (first | refine w_seq ?_ | refine w_seqN ?_ | refine w_seqR ?_ | refine w_ret ?_ | refine w_ops ?_ | ((refine i_cond ?_); refine w_condT rfl ?_) | ((refine i_nil ?_); first | refine w_end1 rfl ?_ | refine w_end2 rfl rfl ?_) | ((refine i_cons ?_); first | refine k_len rfl ls ?_ | refine k_want rfl ?_ | refine k_mv rfl ?_ | refine k_pickF rfl rfl ?_ | refine k_lssF rfl rfl (by omega) ?_ | refine k_gtrT rfl rfl (by omega) ?_ | refine k_gtrF rfl rfl (by omega) ?_))
    exact ⟨.inr rfl, rfl, rfl⟩
  repeat' (first | refine w_seq ?_ | refine w_seqN ?_ | refine w_blk ?_ | refine w_skip ?_ | refine w_ops ?_ | ((refine i_cond ?_); refine w_condF rfl ?_) | ((refine i_nil ?_); refine w_end2 rfl rfl ?_) | ((refine i_cons ?_); first | refine k_len rfl ls ?_ | refine k_want rfl ?_ | refine k_mv rfl ?_ | refine k_pickF rfl rfl ?_ | refine k_lssF rfl rfl (by omega) ?_ | refine k_gtrF rfl rfl (by omega) ?_))
  refine w_loop (I11 h0 s xs) (cK [1, 5] xs.length 5) (R11 h0 xs) ⟨rfl, 0, Nat.zero_le _, by simp, rfl⟩ (round11 h0 s xs hs (by omega)) ?_
  rintro ex E' h ⟨rfl, ⟨rfl, hall, _, _, _, rfl⟩ | ⟨rfl, hn, rfl⟩⟩
  · rw [if_pos ⟨by omega, by omega, by omega, hall⟩]
    repeat' (first | refine w_seq ?_ | refine w_seqN ?_ | refine w_blkX ?_ | refine w_ret ?_ | refine w_ops ?_ | ((refine i_nil ?_); refine w_end1 rfl ?_) | ((refine i_cons ?_); refine k_mv rfl ?_))
    exact ⟨.inr rfl, rfl, rfl⟩
  · rw [if_neg fun h => hn h.2.2.2]
    repeat' (first | refine w_seqR ?_ | refine w_blkR ?_)
    exact ⟨.inr rfl, rfl, rfl⟩
theorem small_ofP {low : Int} {xs : List Int} (h : smallP low xs) : xs.length ≤ 1000000 ∧ (-9223372036854775808 ≤ low ∧ low ≤ 9223372036854775807) ∧ ∀ x ∈ xs, -9223372036854775808 ≤ x ∧ x ≤ 9223372036854775807 := by
  refine ⟨by have := h.1; omega, by have := h.2.1; have := h.2.2.1; omega, fun x hx => ?_⟩
  have := h.2.2.2 x hx
  unfold smC at this; omega
end Go.Proofs.YtlnjddjobbhcaaaDoor
