/- The reference's Faces: inner loop. -/
import Derived.Test.YtehnalbdfnmphaaDoorFace
namespace Go.Proofs.YtehnalbdfnmphaaDoor
open Go.Ab
set_option linter.unusedVariables false
set_option maxRecDepth 20000
set_option maxHeartbeats 2000000
variable {HK : FuncId → Option Hook}

/-- Is h at most each of the list? -/
def leB (h : Int) (ys : List Int) : Bool := ys.all fun y => decide (h ≤ y)

theorem leB_snoc (h : Int) (ys : List Int) (y : Int) : leB h (ys ++ [y]) = (leB h ys && decide (h ≤ y)) := by simp [leB]

def I36i (hp : Heap) (s o f : SV) (h : Int) (ys : List Int) (E : Env) (hp' : Heap) : Prop := hp' = hp ∧ ∃ i : Nat, i ≤ ys.length ∧
  E = [(0, some (.sc s)), (3, some (.sc o)), (4, some (.sc (.int .i64 h))), (5, some (.sc f)), (6, some (.sc (.bool (leB h (ys.take i))))), (7, some (.sc (.int .i64 i)))]

def μ36i (n : Nat) (E : Env) (_ : Heap) : Nat := match E.get 7 with
  | some (.sc (.int _ i)) => n - i.toNat
  | _ => 0

def R36i (hp : Heap) (s o f : SV) (h : Int) (ys : List Int) (ex : Ex) (E : Env) (hp' : Heap) : Prop := hp' = hp ∧ ex = .ex 2 ∧ ∃ (i c : SV),
  E = [(0, some (.sc s)), (3, some (.sc o)), (4, some (.sc (.int .i64 h))), (5, some (.sc f)), (6, some (.sc (.bool (leB h ys)))), (7, some (.sc i)), (20, some (.sc c))]

theorem round36i (hp : Heap) (s o f : SV) (h : Int) (ys : List Int) (hy : IsInts hp f ys) (hl : ys.length ≤ 100000) (E : Env) (hp' : Heap) (hI : I36i hp s o f h ys E hp') :
    wA FT HK b36L1 (E.keep [0, 3, 4, 5, 6, 7]) hp' (wRound (I36i hp s o f h ys) (μ36i ys.length) (μ36i ys.length E hp') (R36i hp s o f h ys)) := by
  obtain ⟨rfl, i, hi, rfl⟩ := hI
  refine w_seq (w_seq (w_ops ?_))
  refine op_ok rfl rfl rfl ?_
  refine op_ok rfl rfl rfl ?_
  refine op_len rfl rfl (IsSl.len hy) ?_
  refine op_test rfl rfl rfl (fun hc => ?_) (fun hc => ?_)
  ·
    have hlt : i < ys.length := by have := of_decide_eq_true hc; omega
    obtain ⟨y, hyi⟩ : ∃ y, ys[i]? = some y := ⟨_, List.getElem?_eq_getElem hlt⟩
    obtain ⟨id, off, cap, rfl, hr⟩ := IsInts.at hy hyi
    have hsn : leB h (ys.take (i + 1)) = (leB h (ys.take i) && decide (h ≤ y)) := by rw [List.take_add_one, hyi, Option.toList_some, leB_snoc]
    refine w_end (keep_c rfl (keep_c rfl (keep_c rfl (keep_c rfl (keep_c rfl (keep_c rfl (keep_c rfl (keep_nil _)))))))) (w_seqN (w_condT rfl (w_skip (w_seqN (w_seq (w_blk (w_ops ?_)))))))
    refine op_ok rfl rfl rfl ?_
    refine op_test rfl rfl rfl (fun c1 => ?_) (fun c1 => ?_)
    ·
      refine op_ok rfl rfl rfl ?_
      refine op_ok rfl rfl rfl ?_
      refine op_ok rfl rfl rfl ?_
      refine op_idxA rfl rfl rfl ⟨by omega, by omega⟩ ?_
      refine op_ld rfl rfl hr ?_
      refine op_ok rfl rfl rfl ?_
      refine op_ok rfl rfl rfl ?_
      refine op_ok rfl rfl rfl ?_
      refine w_end (keep_c rfl (keep_c rfl (keep_c rfl (keep_c rfl (keep_c rfl (keep_c rfl (keep_nil _))))))) (w_blkN (w_seqN (w_ops ?_)))
      refine op_ok rfl rfl rfl ?_
      refine op_wrap rfl rfl rfl (by omega) ?_
      refine op_ok rfl rfl rfl ?_
      refine w_end (keep_c rfl (keep_c rfl (keep_c rfl (keep_c rfl (keep_c rfl (keep_c rfl (keep_nil _))))))) (w_roundN ?_ ?_)
      · refine ⟨rfl, i + 1, hlt, ?_⟩
        rw [hsn, c1]; rfl
      · show ys.length - ((i : Int) + 1).toNat < ys.length - (i : Int).toNat
        omega
    ·
      repeat (first | refine op_skip rfl ?_ | refine op_ok rfl rfl rfl ?_)
      refine w_end (keep_c rfl (keep_c rfl (keep_c rfl (keep_c rfl (keep_c rfl (keep_c rfl (keep_nil _))))))) (w_blkN (w_seqN (w_ops ?_)))
      refine op_ok rfl rfl rfl ?_
      refine op_wrap rfl rfl rfl (by omega) ?_
      refine op_ok rfl rfl rfl ?_
      refine w_end (keep_c rfl (keep_c rfl (keep_c rfl (keep_c rfl (keep_c rfl (keep_c rfl (keep_nil _))))))) (w_roundN ?_ ?_)
      · refine ⟨rfl, i + 1, hlt, ?_⟩
        rw [hsn, c1]; rfl
      · show ys.length - ((i : Int) + 1).toNat < ys.length - (i : Int).toNat
        omega
  ·
    have he : i = ys.length := by have := of_decide_eq_false hc; omega
    subst he
    refine w_end (keep_c rfl (keep_c rfl (keep_c rfl (keep_c rfl (keep_c rfl (keep_c rfl (keep_c rfl (keep_nil _)))))))) (w_seqN (w_condF rfl (w_exit ?_)))
    refine ⟨rfl, rfl, .int .i64 (ys.length : Nat), .bool false, ?_⟩
    rw [List.take_length]

end Go.Proofs.YtehnalbdfnmphaaDoor
