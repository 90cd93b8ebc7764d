/- copyCheck; the wakening: it says true. -/
import Derived.Test.YtleoalcbgpjieaaDoorCode
import Derived.Test.YtleoalcbgpjieaaDoorAb34
import Derived.WalkKit
import Derived.Laws.Externs
import Derived.Test.YtleoalcbgpjieaaDoorS4
import Derived.Test.YtleoalcbgpjieaaDoorAb32
import Derived.Test.YtleoalcbgpjieaaDoorGM
namespace Go.Proofs.YtleoalcbgpjieaaDoor
open Go.Ab Go.RowKit
set_option linter.unusedVariables false

theorem sizeB : (Tryd.prog.info? 80).map (·.size) = some 2 := by kernel_rfl
theorem liesB : liesAt Tryd.prog Tryd.prog.depth 80 (2 / Tryd.prog.cellsOf 80) 0 80 1 = true := by kernel_rfl

set_option maxRecDepth 100000 in
theorem cc_used (b : Nat) (w : World) (h0 : w.cell? ⟨b, 0, none⟩ = some (.pointer (some ⟨b, 0, none⟩))) :
    Calls Tryd.prog 60 #[.pointer (some ⟨b, 0, none⟩)] w fun e w' => e = .returned (.tuple #[]) ∧ w' = w := by
  obtain ⟨j, hj, hjs⟩ := Option.map_eq_some_iff.1 sizeB
  go_enter Tryd.func60, Tryd.ntmps60
  go_wp2
  rw [Lib.run_neq_ptr_same w _ Tryd.underlying77 hj]
  go_wp2
  go_end0
  exact ⟨rfl, rfl⟩

set_option maxHeartbeats 1000000 in
set_option maxRecDepth 100000 in
theorem cc_new (b : Nat) (w : World) (h0 : w.cell? ⟨b, 0, none⟩ = some (.pointer none)) (hsh : w.shape? b = some (80, 2)) (hfz : w.frozen? ⟨b, 0, none⟩ = false) :
    Calls Tryd.prog 60 #[.pointer (some ⟨b, 0, none⟩)] w fun e w' => e = .returned (.tuple #[]) ∧ w' = w.setCell ⟨b, 0, none⟩ (.pointer (some ⟨b, 0, none⟩)) := by
  obtain ⟨j, hj, hjs⟩ := Option.map_eq_some_iff.1 sizeB
  go_enter Tryd.func60, Tryd.ntmps60
  go_wp2
  rw [Lib.run_to_unsafe w ⟨b, 0, none⟩ Tryd.underlying77 Tryd.underlying107 hj (by rw [hjs]; decide) hsh (Nat.zero_lt_succ 1)]
  simp only [Result.andThen]
  rw [Oper.upon_value]
  go_wp2
  rw [run_callFunc_extern Tryd.func68 (by kernel_rfl) (by kernel_rfl) (by kernel_rfl) (e := Extern.AbiNoEscape.same) (by kernel_rfl)]
  rw [Lib.run_noEscape]
  simp only [Result.andThen]
  rw [Oper.upon_value]
  go_wp2
  rw [Lib.run_from_unsafe w ⟨b, 0, none⟩ Tryd.underlying107 Tryd.underlying77 hj hsh liesB]
  simp only [Result.andThen]
  rw [Oper.upon_value]
  go_wp2
  go_end0
  exact ⟨rfl, rfl⟩

def HK0 : FuncId → Option Hook := fun f => if f = 60 then some (ccHook 80) else none
theorem HK0_ok [Base] : HKok Tryd.prog HK0 := fun f g h => by
  unfold HK0 at h
  split at h
  · rename_i hf
    simp only [Option.some.injEq] at h
    subst hf h
    exact ccHook_ok (by kernel_rfl) cc_used cc_new
  · simp at h

/-- The hooks over which the wakening is reckoned. -/
def HKs : FuncId → Option Hook := fun f => if f = 48 then some joinHook else if f = 49 then some fieldsHookA else if f = 65 then some atoiHook else if f = 46 then some itoaHookA else HK0 f
end Go.Proofs.YtleoalcbgpjieaaDoor


namespace Go.Proofs.YtleoalcbgpjieaaDoor
open Go.Ab
theorem awake_run : isT (callA FT HKs 1000 9 [] []) = true := by decide +kernel
theorem awake_ok [Base] (h : HKok Tryd.prog HKs) : HkOK Tryd.prog 9 (constHook (.sc (.bool true))) := by
  obtain ⟨h', hr⟩ := isT_some awake_run
  exact constHook_same ft_ok h (fun β β' c h => by cases h; exact .bool _) hr
end Go.Proofs.YtleoalcbgpjieaaDoor



namespace Go.Proofs.YtleoalcbgpjieaaDoor
open Go.Ab
set_option linter.unusedVariables false

def HKt : FuncId → Option Hook := fun f => if f = 9 then some (constHook (.sc (.bool true))) else HK0 f
theorem awake_callT (h : Heap) : ∃ v h', Cal FT HKt 9 [] h v h' ∧ v = .sc (.bool true) ∧ h' = h := ⟨_, _, Cal.hook (g := constHook (.sc (.bool true))) rfl rfl, rfl, rfl⟩
end Go.Proofs.YtleoalcbgpjieaaDoor


namespace Go.Proofs.YtleoalcbgpjieaaDoor
open Go.Ab
set_option linter.unusedVariables false
set_option linter.unusedSimpArgs false
set_option maxRecDepth 20000
set_option maxHeartbeats 4000000
attribute [local irreducible] wOps wA wSeq wBlk wRound wRoundI wOpsD

/-! ### Two equal lists -/
def I43 (h0 : Heap) (a b : SV) (xs : List Int) (E : Env) (h : Heap) : Prop := h = h0 ∧ ∃ i : Nat, i ≤ xs.length ∧ E = [(0, some (.sc a)), (1, some (.sc b)), (12, some (.sc (.int .i64 (xs.length : Nat)))), (13, some (.sc (.int .i64 (i : Nat))))]
def R43 (h0 : Heap) (ex : Ex) (E : Env) (h : Heap) : Prop := h = h0 ∧ ex = .ex 0 ∧ ∃ x y z w u, E = [(0, x), (1, y), (12, z), (13, w), (14, u)]
end Go.Proofs.YtleoalcbgpjieaaDoor




namespace Go.Proofs.YtleoalcbgpjieaaDoor
open Go.Ab
set_option linter.unusedVariables false
set_option linter.unusedSimpArgs false
set_option maxRecDepth 20000
attribute [local irreducible] wOps wA wSeq wBlk wRound wOpsD

def I34 (h0 : Heap) (s t : SV) (xs ys : List Int) (E : Env) (h : Heap) : Prop := ∃ i : Nat, i ≤ xs.length ∧ h = h0 ∧ xs.take i = ys.take i ∧
  E = [(0, some (.sc s)), (1, some (.sc t)), (5, some (.sc (.int .i64 i)))]
def R34 (h0 : Heap) (xs ys : List Int) (ex : Ex) (E : Env) (h : Heap) : Prop := h = h0 ∧ match ex with
  | .rt => E = [(4, some (.sc (.bool false)))] ∧ xs ≠ ys
  | .ex i => i = 0 ∧ xs = ys ∧ ∃ a b c d, E = [(0, a), (1, b), (5, c), (14, d)]
  | .nm => False
theorem round34 (h0 : Heap) (s t : SV) (xs ys : List Int) (hs : IsInts h0 s xs) (ht : IsInts h0 t ys) (hl : xs.length = ys.length) (hb : xs.length ≤ 1000000) (E : Env) (h : Heap) (hI : I34 h0 s t xs ys E h) :
    wA FT HKt b34L0 (E.keep [0, 1, 5]) h (wRound (I34 h0 s t xs ys) (cnt xs.length 5) (cnt xs.length 5 E h) (R34 h0 xs ys)) := by
  obtain ⟨i, hi, rfl, he, rfl⟩ := hI
  have hln := IsSl.len hs
  by_cases hlt : i < xs.length
  · obtain ⟨x, hx⟩ : ∃ x, xs[i]? = some x := ⟨_, List.getElem?_eq_getElem hlt⟩
    obtain ⟨y, hy⟩ : ∃ y, ys[i]? = some y := ⟨_, List.getElem?_eq_getElem (by omega)⟩
    obtain ⟨id, off, cap, rfl, hrd⟩ := IsInts.at hs hx
    obtain ⟨id2, off2, cap2, rfl, hrd2⟩ := IsInts.at ht hy
    by_cases hxy : x = y
    · subst hxy
      have e1 : xs.take (i + 1) = ys.take (i + 1) := by rw [take_snoc hx, take_snoc hy, he]
      repeat' (first | refine w_seq ?_ | refine w_seqN ?_ | refine w_blk ?_ | refine w_blkN ?_ | refine w_skip ?_ | refine w_ops ?_ | refine w_opsD ?_ | refine d_one ?_ | refine d_nil ?_ | ((refine i_cond ?_); first | refine w_condT rfl ?_ | refine w_condF rfl ?_) | ((refine i_nil ?_); first | refine d_same ?_ | refine w_end3 rfl rfl rfl ?_ | refine w_end4 rfl rfl rfl rfl ?_) | ((refine i_cons ?_); first | refine k_len rfl hln ?_ | refine k_idxA rfl rfl (by omega) ?_ | refine k_ld rfl hrd ?_ | refine k_ld rfl hrd2 ?_ | refine k_mv rfl ?_ | refine k_add rfl rfl (by omega) ?_ | refine k_lssT rfl rfl (by omega) ?_ | refine k_neqF rfl rfl (by omega) ?_))
      exact w_roundN ⟨i + 1, by omega, rfl, e1, rfl⟩ (by simp [cnt, Env.get]; omega)
    · have hne : xs ≠ ys := fun e => by subst e; rw [hx] at hy; cases hy; exact hxy rfl
      repeat' (first | refine w_seq ?_ | refine w_seqN ?_ | refine w_seqR ?_ | refine w_blk ?_ | refine w_blkR ?_ | refine w_skip ?_ | refine w_ret ?_ | refine w_ops ?_ | refine w_opsD ?_ | refine d_one ?_ | refine d_nil ?_ | ((refine i_cond ?_); refine w_condT rfl ?_) | ((refine i_nil ?_); first | refine d_same ?_ | refine w_end1 rfl ?_ | refine w_end4 rfl rfl rfl rfl ?_) | ((refine i_cons ?_); first | refine k_len rfl hln ?_ | refine k_idxA rfl rfl (by omega) ?_ | refine k_ld rfl hrd ?_ | refine k_ld rfl hrd2 ?_ | refine k_mv rfl ?_ | refine k_lssT rfl rfl (by omega) ?_ | refine k_neqT rfl rfl (by omega) ?_))
      exact w_roundR ⟨rfl, rfl, hne⟩
  · rw [List.take_of_length_le (by omega), List.take_of_length_le (by omega)] at he
    repeat' (first | refine w_seq ?_ | refine w_seqN ?_ | refine w_seqX ?_ | refine w_exit ?_ | refine w_ops ?_ | ((refine i_cond ?_); refine w_condF rfl ?_) | ((refine i_nil ?_); refine w_end4 rfl rfl rfl rfl ?_) | ((refine i_cons ?_); first | refine k_len rfl hln ?_ | refine k_mv rfl ?_ | refine k_lssF rfl rfl (by omega) ?_))
    exact w_roundX ⟨rfl, rfl, he, _, _, _, _, rfl⟩
theorem call34 (h0 : Heap) (s t : SV) (xs ys : List Int) (hs : IsInts h0 s xs) (ht : IsInts h0 t ys) (hb : xs.length ≤ 1000000) (hb2 : ys.length ≤ 1000000) :
    ∃ v h', Cal FT HKt 34 [.sc s, .sc t] h0 v h' ∧ h' = h0 ∧ v = .sc (.bool (decide (xs = ys))) := by
  refine Cal.of (F := a34) rfl rfl rfl ?_
  have hln := IsSl.len hs
  have hlt := IsSl.len ht
  by_cases hl : xs.length = ys.length
  · repeat' (first | refine w_seq ?_ | refine w_seqN ?_ | refine w_blk ?_ | refine w_skip ?_ | refine w_ops ?_ | ((refine i_cond ?_); refine w_condF rfl ?_) | ((refine i_nil ?_); first | refine w_end2 rfl rfl ?_ | refine w_end3 rfl rfl rfl ?_) | ((refine i_cons ?_); first | refine k_len rfl hln ?_ | refine k_len rfl hlt ?_ | refine k_mv rfl ?_ | refine k_neqF rfl rfl (by omega) ?_))
    refine w_loop (I34 h0 s t xs ys) (cnt xs.length 5) (R34 h0 xs ys) ⟨0, Nat.zero_le _, rfl, rfl, rfl⟩ (round34 h0 s t xs ys hs ht hl hb) ?_
    rintro ex E' h' ⟨rfl, hR⟩
    cases ex with
    | nm => exact hR.elim
    | ex i =>
      obtain ⟨rfl, he, a, b, c, d, rfl⟩ := hR
      rw [decide_eq_true he]
      repeat' (first | refine w_seq ?_ | refine w_seqN ?_ | refine w_blkX ?_ | refine w_ret ?_ | refine w_ops ?_ | ((refine i_nil ?_); refine w_end1 rfl ?_) | ((refine i_cons ?_); refine k_mv rfl ?_))
      exact ⟨.inr rfl, rfl, rfl⟩
    | rt =>
      obtain ⟨rfl, hn⟩ := hR
      rw [decide_eq_false hn]
      repeat' (first | refine w_seqR ?_ | refine w_blkR ?_)
      exact ⟨.inr rfl, rfl, rfl⟩
  · rw [decide_eq_false (fun e : xs = ys => hl (by rw [e]))]
    repeat' (first | refine w_seq ?_ | refine w_seqN ?_ | refine w_seqR ?_ | refine w_ret ?_ | refine w_ops ?_ | ((refine i_cond ?_); refine w_condT rfl ?_) | ((refine i_nil ?_); first | refine w_end1 rfl ?_ | refine w_end2 rfl rfl ?_ | refine w_end3 rfl rfl rfl ?_) | ((refine i_cons ?_); first | refine k_len rfl hln ?_ | refine k_len rfl hlt ?_ | refine k_mv rfl ?_ | refine k_neqT rfl rfl (by omega) ?_))
    exact ⟨.inr rfl, rfl, rfl⟩


end Go.Proofs.YtleoalcbgpjieaaDoor

