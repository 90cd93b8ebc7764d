/- The reference's Label: the innermost loop. -/
import Derived.Test.YtehnalbdfnmphaaDoorFace
import Derived.Test.YtehnalbdfnmphaaDoorAb23
namespace Go.Proofs.YtehnalbdfnmphaaDoor
open Go.Ab
set_option linter.unusedVariables false
set_option maxRecDepth 20000
set_option maxHeartbeats 2000000
variable {HK : FuncId → Option Hook}

/-- The mate of a half-edge. -/
def mateN (ms : List Int) (h : Nat) : Nat := (ms.getD h 0).toNat

/-- Both ends of an edge take the least of their two labels. -/
def labStep (ms : List Int) (ls : List Int) (h : Nat) : List Int :=
  let low := min (ls.getD (h / 4) 0) (ls.getD (mateN ms h / 4) 0)
  (ls.set (h / 4) low).set (mateN ms h / 4) low

def labPass (ms : List Int) (ls : List Int) (n : Nat) : List Int := (List.range n).foldl (labStep ms) ls
theorem labPass_succ (ms ls : List Int) (n : Nat) : labPass ms ls (n + 1) = labStep ms (labPass ms ls n) n := by
  unfold labPass
  rw [List.range_succ, List.foldl_append]; rfl
theorem labStep_len (ms ls : List Int) (h : Nat) : (labStep ms ls h).length = ls.length := by simp [labStep]
theorem labPass_len (ms ls : List Int) : ∀ n, (labPass ms ls n).length = ls.length
  | 0 => rfl
  | n + 1 => by rw [labPass_succ, labStep_len, labPass_len ms ls n]

def LB (h0 : Heap) (ls : List Int) : Heap := h0 ++ [.cells (ls.map (.int .i64)) true 1]

theorem LB_rd {h0 : Heap} {ls : List Int} {k : Nat} (hk : k < ls.length) : readN (LB h0 ls) h0.length (0 + ((k : Nat) : Int).toNat * 1) 1 = some [.int .i64 (ls.getD k 0)] := by
  rw [Int.toNat_natCast, Nat.mul_one, Nat.zero_add]
  refine rd_last ?_
  simp [hk, List.getD]
theorem LB_wr {h0 : Heap} {ls : List Int} {k : Nat} {x : Int} (hk : k < ls.length) : writeN (LB h0 ls) h0.length (0 + ((k : Nat) : Int).toNat * 1) [.int .i64 x] = some (LB h0 (ls.set k x)) := by
  rw [Int.toNat_natCast, Nat.mul_one, Nat.zero_add]
  unfold LB
  rw [wr_last (by simpa using hk), List.map_set]

def I35i (h0 : Heap) (s : SV) (p : Int) (ms ls : List Int) (E : Env) (hp : Heap) : Prop := ∃ i : Nat, i ≤ ms.length ∧ hp = LB h0 (labPass ms ls i) ∧
  E = [(0, some (.sc s)), (3, some (.sc (.int .i64 ls.length))), (4, some (.sc (.slc h0.length 0 ls.length (some ls.length)))), (6, some (.sc (.int .i64 p))), (7, some (.sc (.int .i64 i)))]

def μ35i (n : Nat) (E : Env) (_ : Heap) : Nat := match E.get 7 with
  | some (.sc (.int _ i)) => n - i.toNat
  | _ => 0

def R35i (h0 : Heap) (s : SV) (p : Int) (ms ls : List Int) (ex : Ex) (E : Env) (hp : Heap) : Prop := hp = LB h0 (labPass ms ls ms.length) ∧ ex = .ex 4 ∧ ∃ t,
  E = (0, some (.sc s)) :: (3, some (.sc (.int .i64 ls.length))) :: (4, some (.sc (.slc h0.length 0 ls.length (some ls.length)))) :: (6, some (.sc (.int .i64 p))) :: t

theorem round35i (h0 : Heap) (s : SV) (p : Int) (ms ls : List Int) (hs : IsInts h0 s ms) (hm : Mates ms) (hls : ls.length * 4 = ms.length) (E : Env) (hp : Heap) (hI : I35i h0 s p ms ls E hp) :
    wA FT HK b35L2 (E.keep [0, 3, 4, 6, 7]) hp (wRound (I35i h0 s p ms ls) (μ35i ms.length) (μ35i ms.length E hp) (R35i h0 s p ms ls)) := by
  obtain ⟨i, hi, rfl, rfl⟩ := hI
  have hml := hm.len
  have hsL := IsSl.mono hs (mono_app (t := [.cells ((labPass ms ls i).map (.int .i64)) true 1]))
  refine w_seq (w_seq (w_ops ?_))
  refine op_ok rfl rfl rfl ?_
  refine op_ok rfl rfl rfl ?_
  refine op_len rfl rfl (IsSl.len hs) ?_
  refine op_test rfl rfl rfl (fun hc => ?_) (fun hc => ?_)
  ·
    have hlt : i < ms.length := by have := of_decide_eq_true hc; omega
    obtain ⟨m, hg1, hg2⟩ := hm.get i hlt
    obtain ⟨id, off, cap, rfl, hr⟩ := IsInts.at hsL hg1
    have hr2 : readN (LB h0 (labPass ms ls i)) id (off + ((i : Nat) : Int).toNat * 1) 1 = some [.int .i64 (m : Int)] := by rw [Int.toNat_natCast]; exact hr
    have hln := labPass_len ms ls i
    have ha : i / 4 < (labPass ms ls i).length := by omega
    have hb : m / 4 < (labPass ms ls i).length := by omega
    have hmN : mateN ms i = m := by unfold mateN; rw [getD_at hg1]; simp
    refine w_end (keep_c rfl (keep_c rfl (keep_c rfl (keep_c rfl (keep_c rfl (keep_c rfl (keep_nil _))))))) (w_seqN (w_condT rfl (w_skip (w_seqN (w_seq (w_blk (w_seq (w_opsD ?_))))))))
    refine d_one (op_ok rfl rfl rfl (d_same ?_))
    refine d_one (op_eq rfl rfl rfl (y := .int .i64 ((i / 4 : Nat) : Int)) (by rw [wrapI, show (4 : Int) = ((4 : Nat) : Int) from rfl, quo_nat, wrap_in (by omega)]) (d_same ?_))
    refine d_one (op_ok rfl rfl rfl (d_same ?_))
    refine d_one (op_ok rfl rfl rfl (d_same ?_))
    refine d_one (op_idxA rfl rfl rfl ⟨by omega, by omega⟩ (d_same ?_))
    refine d_one (op_ld rfl rfl hr2 (d_same ?_))
    refine d_one (op_eq rfl rfl rfl (y := .int .i64 ((m / 4 : Nat) : Int)) (by rw [wrapI, show (4 : Int) = ((4 : Nat) : Int) from rfl, quo_nat, wrap_in (by omega)]) (d_same ?_))
    refine d_one (op_ok rfl rfl rfl (d_same ?_))
    refine d_one (op_ok rfl rfl rfl (d_same ?_))
    refine w_endD (keep_c rfl (keep_c rfl (keep_c rfl (keep_c rfl (keep_c rfl (keep_c rfl (keep_c rfl (keep_nil _)))))))) (w_seqN (w_seq (w_opsD ?_)))
    refine d_one (op_ok rfl rfl rfl (d_same ?_))
    refine d_one (op_ok rfl rfl rfl (d_same ?_))
    refine d_one (op_idxA rfl rfl rfl ⟨by omega, by omega⟩ (d_same ?_))
    refine d_one (op_ld rfl rfl (LB_rd ha) (d_same ?_))
    refine d_one (op_ok rfl rfl rfl (d_same ?_))
    refine d_one (op_ok rfl rfl rfl (d_same ?_))
    refine d_one (op_idxA rfl rfl rfl ⟨by omega, by omega⟩ (d_same ?_))
    refine d_one (op_ld rfl rfl (LB_rd hb) (d_same ?_))
    refine d_one (op_eq rfl rfl rfl (y := .int .i64 (min ((labPass ms ls i).getD (i / 4) 0) ((labPass ms ls i).getD (m / 4) 0))) ?_ (d_same ?_))
    · show SV.int .i64 (if (labPass ms ls i).getD (m / 4) 0 < (labPass ms ls i).getD (i / 4) 0 then (labPass ms ls i).getD (m / 4) 0 else (labPass ms ls i).getD (i / 4) 0) = _
      congr 1
      split <;> omega
    refine d_one (op_ok rfl rfl rfl (d_same ?_))
    refine w_endD (keep_c rfl (keep_c rfl (keep_c rfl (keep_c rfl (keep_c rfl (keep_c rfl (keep_c rfl (keep_c rfl (keep_nil _))))))))) (w_seqN (w_ops ?_))
    refine op_ok rfl rfl rfl ?_
    refine op_ok rfl rfl rfl ?_
    refine op_ok rfl rfl rfl ?_
    refine op_ok rfl rfl rfl ?_
    refine op_ok rfl rfl rfl ?_
    refine op_ok rfl rfl rfl ?_
    refine op_idxA rfl rfl rfl ⟨by omega, by omega⟩ ?_
    refine op_st rfl rfl rfl (LB_wr ha) ?_
    refine op_idxA rfl rfl rfl ⟨by omega, by omega⟩ ?_
    refine op_st rfl rfl rfl (LB_wr (by rw [List.length_set]; exact hb)) ?_
    refine w_end (keep_c rfl (keep_c rfl (keep_c rfl (keep_c rfl (keep_c rfl (keep_nil _)))))) (w_blkN (w_seqN (w_ops ?_)))
    refine op_ok rfl rfl rfl ?_
    refine op_wrap rfl rfl rfl (by omega) ?_
    refine op_ok rfl rfl rfl ?_
    refine w_end (keep_c rfl (keep_c rfl (keep_c rfl (keep_c rfl (keep_c rfl (keep_nil _)))))) (w_roundN ?_ ?_)
    · refine ⟨i + 1, hlt, ?_, rfl⟩
      rw [labPass_succ]
      unfold labStep
      rw [hmN]
    · show ms.length - ((i : Int) + 1).toNat < ms.length - (i : Int).toNat
      omega
  ·
    have he : i = ms.length := by have := of_decide_eq_false hc; omega
    subst he
    refine w_end (keep_c rfl (keep_c rfl (keep_c rfl (keep_c rfl (keep_c rfl (keep_c rfl (keep_nil _))))))) (w_seqN (w_condF rfl (w_exit ?_)))
    exact ⟨rfl, rfl, _, rfl⟩

/-! ### The first labels -/
def initL (n i : Nat) : List Int := (List.range n).map fun c => if c < i then (c : Int) else 0
theorem initL_len (n i : Nat) : (initL n i).length = n := by simp [initL]
theorem initL_succ {n i : Nat} (hi : i < n) : (initL n i).set i (i : Int) = initL n (i + 1) := by
  refine List.ext_getElem? fun k => ?_
  unfold initL
  rw [List.getElem?_set]
  split
  · rename_i he
    subst he
    simp [hi]
  · rename_i he
    by_cases hk : k < n
    · simp only [List.getElem?_map, List.getElem?_range hk, Option.map_some]
      congr 1
      split <;> split <;> first | rfl | omega
    · simp [hk]
theorem initL_zero (n : Nat) : initL n 0 = (List.range n).map fun _ => (0 : Int) := by simp [initL]

theorem rep_ints (n : Nat) : rep [SV.int .i64 0] n = (initL n 0).map (.int .i64) := by
  refine List.ext_getElem? fun k => ?_
  by_cases hk : k < n
  · rw [rep1_get hk]; simp [initL, hk]
  · rw [List.getElem?_eq_none (by rw [rep_length]; simp; omega), List.getElem?_eq_none (by simp [initL]; omega)]

def I35a (h0 : Heap) (s : SV) (n : Nat) (E : Env) (hp : Heap) : Prop := ∃ i : Nat, i ≤ n ∧ hp = LB h0 (initL n i) ∧
  E = [(0, some (.sc s)), (3, some (.sc (.int .i64 n))), (4, some (.sc (.slc h0.length 0 n (some n)))), (5, some (.sc (.int .i64 i)))]
def μ35a (n : Nat) (E : Env) (_ : Heap) : Nat := match E.get 5 with
  | some (.sc (.int _ i)) => n - i.toNat
  | _ => 0
def R35a (h0 : Heap) (s : SV) (n : Nat) (ex : Ex) (E : Env) (hp : Heap) : Prop := hp = LB h0 (initL n n) ∧ ex = .ex 0 ∧ ∃ t,
  E = (0, some (.sc s)) :: (3, some (.sc (.int .i64 n))) :: (4, some (.sc (.slc h0.length 0 n (some n)))) :: t

theorem round35a (h0 : Heap) (s : SV) (n : Nat) (hn : n ≤ 1000) (E : Env) (hp : Heap) (hI : I35a h0 s n E hp) :
    wA FT HK b35L0 (E.keep [0, 3, 4, 5]) hp (wRound (I35a h0 s n) (μ35a n) (μ35a n E hp) (R35a h0 s n)) := by
  obtain ⟨i, hi, rfl, rfl⟩ := hI
  refine w_seq (w_seq (w_ops ?_))
  refine op_ok rfl rfl rfl ?_
  refine op_ok rfl rfl rfl ?_
  refine op_test rfl rfl rfl (fun hc => ?_) (fun hc => ?_)
  ·
    have hlt : i < n := by have := of_decide_eq_true hc; omega
    refine w_end (keep_c rfl (keep_c rfl (keep_c rfl (keep_c rfl (keep_c rfl (keep_nil _)))))) (w_seqN (w_condT rfl (w_skip (w_seqN (w_seq (w_blk (w_ops ?_)))))))
    refine op_ok rfl rfl rfl ?_
    refine op_ok rfl rfl rfl ?_
    refine op_ok rfl rfl rfl ?_
    refine op_idxA rfl rfl rfl ⟨by omega, by omega⟩ ?_
    refine op_st rfl rfl rfl (LB_wr (by rw [initL_len]; exact hlt)) ?_
    refine w_end (keep_c rfl (keep_c rfl (keep_c rfl (keep_c rfl (keep_nil _))))) (w_blkN (w_seqN (w_ops ?_)))
    refine op_ok rfl rfl rfl ?_
    refine op_wrap rfl rfl rfl (by omega) ?_
    refine op_ok rfl rfl rfl ?_
    refine w_end (keep_c rfl (keep_c rfl (keep_c rfl (keep_c rfl (keep_nil _))))) (w_roundN ?_ ?_)
    · exact ⟨i + 1, hlt, by rw [initL_succ hlt], rfl⟩
    · show n - ((i : Int) + 1).toNat < n - (i : Int).toNat
      omega
  ·
    have he : i = n := by have := of_decide_eq_false hc; omega
    subst he
    refine w_end (keep_c rfl (keep_c rfl (keep_c rfl (keep_c rfl (keep_c rfl (keep_nil _)))))) (w_seqN (w_condF rfl (w_exit ?_)))
    exact ⟨rfl, rfl, _, rfl⟩

/-! ### The passes -/
def labIter (ms : List Int) (n : Nat) : Nat → List Int
  | 0 => initL n n
  | p + 1 => labPass ms (labIter ms n p) ms.length
theorem labIter_len (ms : List Int) (n : Nat) : ∀ p, (labIter ms n p).length = n
  | 0 => initL_len n n
  | p + 1 => by unfold labIter; rw [labPass_len, labIter_len ms n p]

def I35p (h0 : Heap) (s : SV) (ms : List Int) (n : Nat) (E : Env) (hp : Heap) : Prop := ∃ p : Nat, p ≤ n ∧ hp = LB h0 (labIter ms n p) ∧
  E = [(0, some (.sc s)), (3, some (.sc (.int .i64 n))), (4, some (.sc (.slc h0.length 0 n (some n)))), (6, some (.sc (.int .i64 p)))]
def μ35p (n : Nat) (E : Env) (_ : Heap) : Nat := match E.get 6 with
  | some (.sc (.int _ i)) => n - i.toNat
  | _ => 0
def R35p (h0 : Heap) (s : SV) (ms : List Int) (n : Nat) (ex : Ex) (E : Env) (hp : Heap) : Prop := hp = LB h0 (labIter ms n n) ∧ ex = .ex 2 ∧ ∃ t,
  E = (0, some (.sc s)) :: (3, some (.sc (.int .i64 n))) :: (4, some (.sc (.slc h0.length 0 n (some n)))) :: t

theorem round35p (h0 : Heap) (s : SV) (ms : List Int) (n : Nat) (hs : IsInts h0 s ms) (hm : Mates ms) (hn : n * 4 = ms.length) (E : Env) (hp : Heap) (hI : I35p h0 s ms n E hp) :
    wA FT HK b35L1 (E.keep [0, 3, 4, 6]) hp (wRound (I35p h0 s ms n) (μ35p n) (μ35p n E hp) (R35p h0 s ms n)) := by
  obtain ⟨p, hi, rfl, rfl⟩ := hI
  have hml := hm.len
  refine w_seq (w_seq (w_ops ?_))
  refine op_ok rfl rfl rfl ?_
  refine op_ok rfl rfl rfl ?_
  refine op_test rfl rfl rfl (fun hc => ?_) (fun hc => ?_)
  ·
    have hlt : p < n := by have := of_decide_eq_true hc; omega
    have hll := labIter_len ms n p
    refine w_end (keep_c rfl (keep_c rfl (keep_c rfl (keep_c rfl (keep_c rfl (keep_nil _)))))) (w_seqN (w_condT rfl (w_skip (w_seqN (w_seq (w_blk (w_seq (w_ops ?_))))))))
    refine op_ok rfl rfl rfl ?_
    refine w_end (keep_c rfl (keep_c rfl (keep_c rfl (keep_c rfl (keep_c rfl (keep_nil _)))))) (w_seqN (w_blk (w_loop (I35i h0 s p ms (labIter ms n p)) (μ35i ms.length) (R35i h0 s p ms (labIter ms n p)) ?_ (round35i h0 s p ms _ hs hm (by rw [hll]; exact hn)) ?_)))
    · exact ⟨0, by omega, rfl, by rw [hll]; rfl⟩
    · rintro ex E h' ⟨rfl, rfl, t, rfl⟩
      rw [hll]
      refine w_blkX (w_blkN (w_seqN (w_ops ?_)))
      refine op_ok rfl rfl rfl ?_
      refine op_wrap rfl rfl rfl (by omega) ?_
      refine op_ok rfl rfl rfl ?_
      refine w_end (keep_c rfl (keep_c rfl (keep_c rfl (keep_c rfl (keep_nil _))))) (w_roundN ?_ ?_)
      · exact ⟨p + 1, hlt, rfl, rfl⟩
      · show n - ((p : Int) + 1).toNat < n - (p : Int).toNat
        omega
  ·
    have he : p = n := by have := of_decide_eq_false hc; omega
    subst he
    refine w_end (keep_c rfl (keep_c rfl (keep_c rfl (keep_c rfl (keep_c rfl (keep_nil _)))))) (w_seqN (w_condF rfl (w_exit ?_)))
    exact ⟨rfl, rfl, _, rfl⟩

theorem call35 (hk : HK 35 = none) (h0 : Heap) (s : SV) (ms : List Int) (n : Nat) (hs : IsInts h0 s ms) (hm : Mates ms) (hn : n * 4 = ms.length) :
    ∃ v h', Cal FT HK 35 [.sc s] h0 v h' ∧ v = .sc (.slc h0.length 0 n (some n)) ∧ h' = LB h0 (labIter ms n n) := by
  have hml := hm.len
  refine Cal.of (F := a35) hk rfl rfl ?_
  refine w_seq (w_ops ?_)
  refine op_ok rfl rfl rfl ?_
  refine w_end (keep_c rfl (keep_nil _)) (w_seqN (w_seq (w_ops ?_)))
  refine op_ok rfl rfl rfl ?_
  refine op_len rfl rfl (IsSl.len hs) ?_
  refine op_eq rfl rfl rfl (y := .int .i64 (n : Int)) (by rw [wrapI, show (4 : Int) = ((4 : Nat) : Int) from rfl, quo_nat, wrap_in (by omega)]; congr 1; omega) ?_
  refine op_ok rfl rfl rfl ?_
  refine w_end (keep_c rfl (keep_c rfl (keep_nil _))) (w_seqN (w_seq (w_ops ?_)))
  refine op_ok rfl rfl rfl ?_
  refine op_mk rfl rfl rfl ⟨by omega, by omega, by unfold bigN; omega⟩ ?_
  refine op_ok rfl rfl rfl ?_
  refine w_end (keep_c rfl (keep_c rfl (keep_c rfl (keep_nil _)))) (w_seqN (w_seq (w_seq (w_ops ?_))))
  refine op_ok rfl rfl rfl ?_
  refine w_end (keep_c rfl (keep_c rfl (keep_c rfl (keep_c rfl (keep_nil _))))) (w_seqN (w_blk (w_loop (I35a h0 s n) (μ35a n) (R35a h0 s n) ?_ (round35a h0 s n (by omega)) ?_)))
  · refine ⟨0, by omega, ?_, rfl⟩
    unfold LB
    rw [Int.toNat_natCast, rep_ints]
  · rintro ex E h' ⟨rfl, rfl, t, rfl⟩
    refine w_blkX (w_seqN (w_seq (w_seq (w_ops ?_))))
    refine op_ok rfl rfl rfl ?_
    refine w_end (keep_c rfl (keep_c rfl (keep_c rfl (keep_c rfl (keep_nil _))))) (w_seqN (w_blk (w_loop (I35p h0 s ms n) (μ35p n) (R35p h0 s ms n) ?_ (round35p h0 s ms n hs hm hn) ?_)))
    · exact ⟨0, by omega, rfl, rfl⟩
    · rintro ex E h' ⟨rfl, rfl, t, rfl⟩
      refine w_blkX (w_seqN (w_seq (w_ops ?_)))
      refine op_ok rfl rfl rfl ?_
      refine op_ok rfl rfl rfl ?_
      refine w_end (keep_c rfl (keep_nil _)) (w_seqN (w_ret ?_))
      exact ⟨.inr rfl, rfl, rfl⟩

end Go.Proofs.YtehnalbdfnmphaaDoor
