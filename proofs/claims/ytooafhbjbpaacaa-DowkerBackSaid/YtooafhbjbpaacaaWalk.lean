/- The walk through dowker.Valid and its reference. -/
import Derived.Test.YtooafhbjbpaacaaCode
import Derived.Test.YtooafhbjbpaacaaAb23
namespace Go.Proofs.Ytooafhbjbpaacaa
open Go.Ab
set_option linter.unusedVariables false
set_option linter.unusedSimpArgs false
set_option maxRecDepth 20000
set_option maxHeartbeats 2000000
variable {HK : FuncId → Option Hook}

def Fit (n : Int) (x : Int) : Prop := -2 * n ≤ x ∧ x ≤ 2 * n ∧ x ≠ 0 ∧ x.tmod 2 = 0
def Good (xs : List Int) : Prop := 1 ≤ xs.length ∧ xs.length ≤ 64 ∧ (∀ x ∈ xs, Fit xs.length x) ∧ (xs.map Int.natAbs).Nodup

/-- Which halves were seen. -/
def SeenB (n : Nat) (ys : List Int) (bs : List SV) : Prop := bs.length = n + 1 ∧ ∀ k, k ≤ n → bs[k]? = some (.bool (decide (2 * k ∈ ys.map Int.natAbs)))

def I16 (h0 : Heap) (s : SV) (xs : List Int) (E : Env) (h : Heap) : Prop := ∃ (i : Nat) (bs : List SV),
  i ≤ xs.length ∧ SeenB xs.length (xs.take i) bs ∧ h = h0 ++ [.cells bs true 1] ∧ (∀ x ∈ xs.take i, Fit xs.length x) ∧ ((xs.take i).map Int.natAbs).Nodup ∧
  E = [(3, some (.sc (.int .i64 xs.length))), (4, some (.sc (.slc h0.length 0 (xs.length + 1) (some (xs.length + 1))))), (19, some (.sc s)), (20, some (.sc (.int .i64 xs.length))), (21, some (.sc (.int .i64 i)))]

def μ16 (n : Nat) (E : Env) (_ : Heap) : Nat := match E.get 21 with
  | some (.sc (.int _ i)) => n - i.toNat
  | _ => 0

def R16 (h0 : Heap) (xs : List Int) (ex : Ex) (E : Env) (h : Heap) : Prop :=
  (∃ bs, h = h0 ++ [.cells bs true 1]) ∧ match ex with
  | .rt => E.get 2 = some (.sc (.bool false)) ∧ ¬ Good xs
  | .ex i => i = 0 ∧ (∀ x ∈ xs, Fit xs.length x) ∧ (xs.map Int.natAbs).Nodup
  | .nm => False

theorem half_wrap {x : Int} (h : x.natAbs ≤ 128) : IntKind.i64.wrap ((x.natAbs : Int).tdiv 2) = ((x.natAbs / 2 : Nat) : Int) := by
  rw [Int.tdiv_eq_ediv_of_nonneg (by omega), wrap_in (by omega)]
  omega

theorem not_good_fit {xs : List Int} {i : Nat} {x : Int} (hx : xs[i]? = some x) (hf : ¬ Fit xs.length x) : ¬ Good xs := fun hg => hf (hg.2.2.1 x (List.mem_of_getElem? hx))

theorem take_snoc {α : Type} {xs : List α} {i : Nat} {x : α} (hx : xs[i]? = some x) : xs.take (i + 1) = xs.take i ++ [x] := by
  rw [List.take_add_one, hx]; rfl

theorem not_good_dup {xs : List Int} {i : Nat} {x : Int} (hx : xs[i]? = some x) (hf : x.natAbs ∈ (xs.take i).map Int.natAbs) : ¬ Good xs := fun hg => by
  have h1 := hg.2.2.2
  rw [← List.take_append_drop (i + 1) xs, List.map_append, List.nodup_append] at h1
  have h2 := h1.1
  rw [take_snoc hx, List.map_append, List.nodup_append] at h2
  exact h2.2.2 _ hf _ (by simp) rfl

theorem SeenB.mark {n : Nat} {ys : List Int} {bs : List SV} {x : Int} (hb : SeenB n ys bs) (hx : x.natAbs = 2 * (x.natAbs / 2)) (hk : x.natAbs / 2 ≤ n) : SeenB n (ys ++ [x]) (bs.set (x.natAbs / 2) (.bool true)) := by
  refine ⟨by simp [hb.1], fun k hkn => ?_⟩
  rw [List.getElem?_set]
  split
  · rename_i he
    subst he
    rw [if_pos (by rw [hb.1]; omega), ← hx]
    simp
  · rename_i he
    rw [hb.2 k hkn]
    have : ¬ 2 * k = x.natAbs := by omega
    simp [this]

theorem round16 (h0 : Heap) (s : SV) (xs : List Int) (hs : IsInts h0 s xs) (h1 : 1 ≤ xs.length) (h64 : xs.length ≤ 64) (E : Env) (h : Heap) (hI : I16 h0 s xs E h) :
    wA FT HK b16L0 (E.keep [3, 4, 19, 20, 21]) h (wRound (I16 h0 s xs) (μ16 xs.length) (μ16 xs.length E h) (R16 h0 xs)) := by
  obtain ⟨i, bs, hi, hb, rfl, hf, hn, rfl⟩ := hI
  refine w_seq (w_ops ?_)
  refine op_test rfl rfl rfl (fun hc => ?_) (fun hc => ?_)
  · have hlt : i < xs.length := by simp at hc; omega
    obtain ⟨x, hx⟩ : ∃ x, xs[i]? = some x := ⟨_, List.getElem?_eq_getElem hlt⟩
    obtain ⟨id, off, cap, rfl, hr⟩ := IsInts.at (IsSl.mono hs (mono_app (t := [.cells bs true 1]))) hx
    refine w_end (keep_c rfl (keep_c rfl (keep_c rfl (keep_c rfl (keep_c rfl (keep_c rfl (keep_nil _))))))) (w_seqN (w_seq (w_condT rfl (w_skip (w_seqN (w_seq (w_blk (w_seq (w_ops ?_)))))))))
    refine op_idxA rfl rfl rfl ⟨by omega, by omega⟩ ?_
    refine op_ld rfl rfl hr ?_
    refine op_ok rfl rfl rfl ?_
    refine w_end (keep_c rfl (keep_c rfl (keep_c rfl (keep_c rfl (keep_c rfl (keep_c rfl (keep_nil _))))))) (w_seqN (w_seq (w_seq (w_ops ?_))))
    have hx1 := not_good_fit hx
    have hh : ∃ b, h0 ++ [Blk.cells bs true 1] = h0 ++ [Blk.cells b true 1] := ⟨_, rfl⟩
    refine op_ok rfl rfl rfl ?_
    refine op_ok rfl rfl rfl ?_
    refine op_wrap rfl rfl rfl (by omega) ?_
    refine op_test rfl rfl rfl (fun c1 => ?_) (fun c1 => ?_)
    ·
      repeat (first | refine op_skip rfl ?_ | refine op_ok rfl rfl rfl ?_)
      refine w_end (keep_c rfl (keep_c rfl (keep_c rfl (keep_c rfl (keep_c rfl (keep_c rfl (keep_c rfl (keep_nil _)))))))) (w_seqN (w_condT rfl (w_seq (w_ops ?_))))
      refine op_ok rfl rfl rfl ?_
      refine w_end (keep_c rfl (keep_nil _)) (w_seqN (w_ret ?_))
      exact ⟨hh, rfl, hx1 fun hf => by simp at c1; have := hf.1; omega⟩
    refine op_ok rfl rfl rfl ?_
    refine op_ok rfl rfl rfl ?_
    refine op_ok rfl rfl rfl ?_
    refine op_wrap rfl rfl rfl (by omega) ?_
    refine op_test rfl rfl rfl (fun c2 => ?_) (fun c2 => ?_)
    ·
      repeat (first | refine op_skip rfl ?_ | refine op_ok rfl rfl rfl ?_)
      refine w_end (keep_c rfl (keep_c rfl (keep_c rfl (keep_c rfl (keep_c rfl (keep_c rfl (keep_c rfl (keep_nil _)))))))) (w_seqN (w_condT rfl (w_seq (w_ops ?_))))
      refine op_ok rfl rfl rfl ?_
      refine w_end (keep_c rfl (keep_nil _)) (w_seqN (w_ret ?_))
      exact ⟨hh, rfl, hx1 fun hf => by simp at c2; have := hf.2.1; omega⟩
    refine op_ok rfl rfl rfl ?_
    refine op_ok rfl rfl rfl ?_
    refine op_ok rfl rfl rfl ?_
    refine op_test rfl rfl rfl (fun c3 => ?_) (fun c3 => ?_)
    ·
      repeat (first | refine op_skip rfl ?_ | refine op_ok rfl rfl rfl ?_)
      refine w_end (keep_c rfl (keep_c rfl (keep_c rfl (keep_c rfl (keep_c rfl (keep_c rfl (keep_c rfl (keep_nil _)))))))) (w_seqN (w_condT rfl (w_seq (w_ops ?_))))
      refine op_ok rfl rfl rfl ?_
      refine w_end (keep_c rfl (keep_nil _)) (w_seqN (w_ret ?_))
      exact ⟨hh, rfl, hx1 fun hf => by simp at c3; exact hf.2.2.1 c3⟩
    refine op_ok rfl rfl rfl ?_
    refine op_ok rfl rfl rfl ?_
    refine op_ok rfl rfl rfl ?_
    refine op_ok rfl rfl rfl ?_
    refine op_test rfl rfl rfl (fun c4 => ?_) (fun c4 => ?_)
    ·
      repeat (first | refine op_skip rfl ?_ | refine op_ok rfl rfl rfl ?_)
      refine w_end (keep_c rfl (keep_c rfl (keep_c rfl (keep_c rfl (keep_c rfl (keep_c rfl (keep_c rfl (keep_nil _)))))))) (w_seqN (w_condT rfl (w_seq (w_ops ?_))))
      refine op_ok rfl rfl rfl ?_
      refine w_end (keep_c rfl (keep_nil _)) (w_seqN (w_ret ?_))
      exact ⟨hh, rfl, hx1 fun hf => by rw [hf.2.2.2] at c4; simp at c4⟩
    repeat (first | refine op_skip rfl ?_ | refine op_ok rfl rfl rfl ?_)
    refine w_end (keep_c rfl (keep_c rfl (keep_c rfl (keep_c rfl (keep_c rfl (keep_c rfl (keep_c rfl (keep_nil _)))))))) (w_seqN (w_condF rfl (w_skip (w_seqN (w_seq (w_ops ?_))))))
    simp at c1 c2 c3 c4
    have hfx : Fit xs.length x := ⟨by omega, by omega, c3, c4⟩
    have hev : x.natAbs = 2 * (x.natAbs / 2) := by have h2 : (2 : Int) ∣ x := Int.dvd_of_tmod_eq_zero c4; omega
    refine op_ok rfl rfl rfl ?_
    refine op_ok rfl rfl rfl ?_
    refine op_wrap rfl rfl rfl (by omega) ?_
    refine op_eq rfl rfl rfl (y := .int .i64 (x.natAbs : Int)) (by simp; split <;> omega) ?_
    refine op_eq rfl rfl rfl (y := .int .i64 ((x.natAbs / 2 : Nat) : Int)) (by rw [wrapI, half_wrap (by omega)]) ?_
    refine op_ok rfl rfl rfl ?_
    refine w_end (keep_c rfl (keep_c rfl (keep_c rfl (keep_c rfl (keep_c rfl (keep_c rfl (keep_nil _))))))) (w_seqN (w_seq (w_seq (w_ops ?_))))
    have hrd : readN (h0 ++ [.cells bs true 1]) h0.length (0 + ((x.natAbs / 2 : Nat) : Int).toNat * 1) 1 = some [.bool (decide (2 * (x.natAbs / 2) ∈ (xs.take i).map Int.natAbs))] := by
      rw [Int.toNat_natCast, Nat.mul_one, Nat.zero_add]
      exact rd_last (hb.2 _ (by omega))
    have hwr : writeN (h0 ++ [.cells bs true 1]) h0.length (0 + ((x.natAbs / 2 : Nat) : Int).toNat * 1) [.bool true] = some (h0 ++ [.cells (bs.set (x.natAbs / 2) (.bool true)) true 1]) := by
      rw [Int.toNat_natCast, Nat.mul_one, Nat.zero_add]
      exact wr_last (by rw [hb.1]; omega)
    refine op_ok rfl rfl rfl ?_
    refine op_ok rfl rfl rfl ?_
    refine op_idxA rfl rfl rfl ⟨by omega, by omega⟩ ?_
    refine op_ld rfl rfl hrd ?_
    refine w_end (keep_c rfl (keep_c rfl (keep_c rfl (keep_c rfl (keep_c rfl (keep_c rfl (keep_c rfl (keep_nil _)))))))) (w_seqN (w_cond _ rfl (fun c5 => w_seq (w_ops ?_)) (fun c5 => w_skip (w_seqN (w_ops ?_)))))
    ·
      refine op_ok rfl rfl rfl ?_
      refine w_end (keep_c rfl (keep_nil _)) (w_seqN (w_ret ?_))
      refine ⟨hh, rfl, not_good_dup hx ?_⟩
      rw [hev]; simpa using c5
    ·
      refine op_ok rfl rfl rfl ?_
      refine op_ok rfl rfl rfl ?_
      refine op_idxA rfl rfl rfl ⟨by omega, by omega⟩ ?_
      refine op_st rfl rfl rfl hwr ?_
      refine w_end (keep_c rfl (keep_c rfl (keep_c rfl (keep_c rfl (keep_c rfl (keep_nil _)))))) (w_blkN (w_seqN (w_ops ?_)))
      refine op_wrap rfl rfl rfl (by omega) ?_
      refine op_ok rfl rfl rfl ?_
      refine w_end (keep_c rfl (keep_c rfl (keep_c rfl (keep_c rfl (keep_c rfl (keep_nil _)))))) (w_roundN ?_ ?_)
      · refine ⟨i + 1, _, hlt, ?_, rfl, ?_, ?_, rfl⟩
        · rw [take_snoc hx]; exact hb.mark hev (by omega)
        · rw [take_snoc hx]
          intro y hy
          rcases List.mem_append.1 hy with hy | hy
          · exact hf y hy
          · simp at hy; subst hy; exact hfx
        · rw [take_snoc hx, List.map_append, List.nodup_append]
          refine ⟨hn, by simp, fun a ha b hb2 => ?_⟩
          simp only [List.map_cons, List.map_nil, List.mem_singleton] at hb2
          rw [← hev] at c5
          intro he
          rw [he, hb2] at ha
          exact of_decide_eq_false c5 ha
      · show xs.length - ((i : Int) + 1).toNat < xs.length - (i : Int).toNat
        omega
  ·
    refine w_end (keep_c rfl (keep_c rfl (keep_c rfl (keep_c rfl (keep_c rfl (keep_c rfl (keep_nil _))))))) (w_seqN (w_seq (w_condF rfl (w_exit ?_))))
    have : i = xs.length := by simp at hc; omega
    subst this
    rw [List.take_length] at hf hn
    exact ⟨⟨_, rfl⟩, rfl, hf, hn⟩

def BoolIff (P : Prop) (h0 : Heap) (v : AV) (h' : Heap) : Prop := (∃ t, h' = h0 ++ t) ∧ ∃ b, v = .sc (.bool b) ∧ (b = true ↔ P)

theorem call16 (hk : HK 16 = none) (h0 : Heap) (s : SV) (xs : List Int) (hs : IsInts h0 s xs) : ∃ v h', Cal FT HK 16 [.sc s] h0 v h' ∧ BoolIff (Good xs) h0 v h' := by
  refine Cal.of (F := a16) hk rfl rfl ?_
  refine w_seq (w_ops ?_)
  refine op_ok rfl rfl rfl ?_
  refine w_end (keep_c rfl (keep_nil _)) (w_seqN (w_seq (w_ops ?_)))
  refine op_ok rfl rfl rfl ?_
  refine op_len rfl rfl (IsSl.len hs) ?_
  refine op_ok rfl rfl rfl ?_
  refine w_end (keep_c rfl (keep_c rfl (keep_nil _))) (w_seqN (w_seq (w_seq (w_ops ?_))))
  refine op_ok rfl rfl rfl ?_
  refine op_test rfl rfl rfl (fun c1 => ?_) (fun c1 => ?_)
  ·
    repeat (first | refine op_skip rfl ?_ | refine op_ok rfl rfl rfl ?_)
    refine w_end (keep_c rfl (keep_c rfl (keep_c rfl (keep_nil _)))) (w_seqN (w_condT rfl (w_seq (w_ops ?_))))
    refine op_ok rfl rfl rfl ?_
    refine w_end (keep_c rfl (keep_nil _)) (w_seqN (w_ret ?_))
    exact ⟨.inr rfl, ⟨[], by simp⟩, false, rfl, by simp; intro hg; have := hg.1; simp at c1; simp [c1] at this⟩
  refine op_ok rfl rfl rfl ?_
  refine op_ok rfl rfl rfl ?_
  refine op_test rfl rfl rfl (fun c2 => ?_) (fun c2 => ?_)
  ·
    repeat (first | refine op_skip rfl ?_ | refine op_ok rfl rfl rfl ?_)
    refine w_end (keep_c rfl (keep_c rfl (keep_c rfl (keep_nil _)))) (w_seqN (w_condT rfl (w_seq (w_ops ?_))))
    refine op_ok rfl rfl rfl ?_
    refine w_end (keep_c rfl (keep_nil _)) (w_seqN (w_ret ?_))
    exact ⟨.inr rfl, ⟨[], by simp⟩, false, rfl, by simp; intro hg; have := hg.2.1; simp at c2; omega⟩
  repeat (first | refine op_skip rfl ?_ | refine op_ok rfl rfl rfl ?_)
  refine w_end (keep_c rfl (keep_c rfl (keep_c rfl (keep_nil _)))) (w_seqN (w_condF rfl (w_skip (w_seqN (w_seq (w_ops ?_))))))
  have h1 : 1 ≤ xs.length := by
    rcases Nat.eq_zero_or_pos xs.length with h0 | h0
    · rw [h0] at c1; simp at c1
    · exact h0
  have h64 : xs.length ≤ 64 := by simp at c2; omega
  refine op_ok rfl rfl rfl ?_
  refine op_wrap rfl rfl rfl (by omega) ?_
  refine op_mk rfl rfl rfl ⟨by omega, by omega, by unfold bigN; omega⟩ ?_
  refine op_ok rfl rfl rfl ?_
  refine w_end (keep_c rfl (keep_c rfl (keep_c rfl (keep_nil _)))) (w_seqN (w_seq (w_seq (w_ops ?_))))
  refine op_ok rfl rfl rfl ?_
  refine op_len rfl rfl (IsSl.len hs) ?_
  refine op_ok rfl rfl rfl ?_
  refine w_end (keep_c rfl (keep_c rfl (keep_c rfl (keep_c rfl (keep_c rfl (keep_nil _)))))) (w_seqN (w_blk (w_loop (I16 h0 s xs) (μ16 xs.length) (R16 h0 xs) ?_ (round16 h0 s xs hs h1 h64) ?_)))
  · refine ⟨0, rep [.bool false] (xs.length + 1), by omega, ⟨by simp [rep_length], fun k hk => ?_⟩, ?_, by simp, by simp, ?_⟩
    · rw [rep1_get (by omega)]; simp
    · rw [show ((xs.length : Int) + 1).toNat = xs.length + 1 by omega]
    · rw [show ((xs.length : Int) + 1).toNat = xs.length + 1 by omega]; rfl
  · intro ex E h hR
    obtain ⟨⟨bs, rfl⟩, hR⟩ := hR
    cases ex with
    | nm => exact hR.elim
    | rt =>
      obtain ⟨hE, hng⟩ := hR
      refine ⟨.inr rfl, ?_⟩
      show oK (resultsA [.t 2] E _) _
      simp only [resultsA, resOne, hE, Option.bind_some, AV.pv, Option.map_some, PV.av]
      exact ⟨⟨_, rfl⟩, false, rfl, by simpa using hng⟩
    | ex i =>
      obtain ⟨rfl, hf, hn⟩ := hR
      refine w_blkX (w_seqN (w_seq (w_ops ?_)))
      refine op_ok rfl rfl rfl ?_
      refine w_end (keep_c rfl (keep_nil _)) (w_seqN (w_ret ?_))
      exact ⟨.inr rfl, ⟨_, rfl⟩, true, rfl, by simpa using ⟨h1, h64, hf, hn⟩⟩

/-! ### The reference -/
def pV (k : Nat) (x : Int) : Bool := x == ((2 * k : Nat) : Int) || x == 0 - ((2 * k : Nat) : Int)
def RefGood (xs : List Int) : Prop := 1 ≤ xs.length ∧ xs.length ≤ 64 ∧ ∀ k, 1 ≤ k → k ≤ xs.length → xs.countP (pV k) = 1

def I17i (h0 : Heap) (s : SV) (xs : List Int) (k : Nat) (E : Env) (h : Heap) : Prop := h = h0 ∧ ∃ i : Nat, i ≤ xs.length ∧
  E = [(0, some (.sc s)), (3, some (.sc (.int .i64 xs.length))), (4, some (.sc (.int .i64 ((2 * k : Nat) : Int)))), (5, some (.sc (.int .i64 ((xs.take i).countP (pV k))))), (6, some (.sc (.int .i64 i)))]

def μ17i (n : Nat) (E : Env) (_ : Heap) : Nat := match E.get 6 with
  | some (.sc (.int _ i)) => n - i.toNat
  | _ => 0

def R17i (h0 : Heap) (s : SV) (xs : List Int) (k : Nat) (ex : Ex) (E : Env) (h : Heap) : Prop := h = h0 ∧ ex = .ex 2 ∧ ∃ i c : SV,
  E = [(0, some (.sc s)), (3, some (.sc (.int .i64 xs.length))), (4, some (.sc (.int .i64 ((2 * k : Nat) : Int)))), (5, some (.sc (.int .i64 (xs.countP (pV k))))), (6, some (.sc i)), (23, some (.sc c))]

theorem count_le (xs : List Int) (k i : Nat) : (xs.take i).countP (pV k) ≤ xs.length := Nat.le_trans List.countP_le_length (by simp; omega)

theorem round17i (h0 : Heap) (s : SV) (xs : List Int) (k : Nat) (hs : IsInts h0 s xs) (h64 : xs.length ≤ 64) (hk1 : k ≤ xs.length) (E : Env) (h : Heap) (hI : I17i h0 s xs k E h) :
    wA FT HK b17L1 (E.keep [0, 3, 4, 5, 6]) h (wRound (I17i h0 s xs k) (μ17i xs.length) (μ17i xs.length E h) (R17i h0 s xs k)) := by
  obtain ⟨rfl, i, hi, rfl⟩ := hI
  have hcl := count_le xs k i
  refine w_seq (w_seq (w_ops ?_))
  refine op_ok rfl rfl rfl ?_
  refine op_ok rfl rfl rfl ?_
  refine op_test rfl rfl rfl (fun hc => ?_) (fun hc => ?_)
  · have hlt : i < xs.length := by simp at hc; omega
    obtain ⟨x, hx⟩ : ∃ x, xs[i]? = some x := ⟨_, List.getElem?_eq_getElem hlt⟩
    obtain ⟨id, off, cap, rfl, hr⟩ := IsInts.at hs hx
    refine w_end (keep_c rfl (keep_c rfl (keep_c rfl (keep_c rfl (keep_c rfl (keep_c rfl (keep_nil _))))))) (w_seqN (w_condT rfl (w_skip (w_seqN (w_seq (w_blk (w_seq (w_ops ?_))))))))
    refine op_ok rfl rfl rfl ?_
    refine op_ok rfl rfl rfl ?_
    refine op_idxA rfl rfl rfl ⟨by omega, by omega⟩ ?_
    refine op_ld rfl rfl hr ?_
    refine op_ok rfl rfl rfl ?_
    have fin : ∀ c : Nat, c = (xs.take (i + 1)).countP (pV k) → ∀ (E t : Env), E = (0, some (.sc (.slc id off xs.length cap))) :: (3, some (.sc (.int .i64 xs.length))) :: (4, some (.sc (.int .i64 ((2 * k : Nat) : Int)))) :: (5, some (.sc (.int .i64 (c : Int)))) :: (6, some (.sc (.int .i64 i))) :: t →
        wSeq (fun E' h' => wA FT HK (.reg [⟨some 24, .mv (.t 6), none⟩, ⟨some 25, .bin .add (.t 24) (.k (.sc (.int .i64 1))), none⟩, ⟨some 6, .mv (.t 25), none⟩] [0, 3, 4, 5, 6]) E' h'
          (wRound (I17i h (.slc id off xs.length cap) xs k) (μ17i xs.length) (μ17i xs.length [(0, some (.sc (.slc id off xs.length cap))), (3, some (.sc (.int .i64 xs.length))), (4, some (.sc (.int .i64 ((2 * k : Nat) : Int)))), (5, some (.sc (.int .i64 ((xs.take i).countP (pV k))))), (6, some (.sc (.int .i64 i)))] h) (R17i h (.slc id off xs.length cap) xs k)))
          (wRound (I17i h (.slc id off xs.length cap) xs k) (μ17i xs.length) (μ17i xs.length [(0, some (.sc (.slc id off xs.length cap))), (3, some (.sc (.int .i64 xs.length))), (4, some (.sc (.int .i64 ((2 * k : Nat) : Int)))), (5, some (.sc (.int .i64 ((xs.take i).countP (pV k))))), (6, some (.sc (.int .i64 i)))] h) (R17i h (.slc id off xs.length cap) xs k)) .nm E h := by
      intro c hc E t hE
      subst hc hE
      refine w_seqN (w_ops ?_)
      refine op_ok rfl rfl rfl ?_
      refine op_wrap rfl rfl rfl (by omega) ?_
      refine op_ok rfl rfl rfl ?_
      refine w_end (keep_c rfl (keep_c rfl (keep_c rfl (keep_c rfl (keep_c rfl (keep_nil _)))))) (w_roundN ?_ ?_)
      · exact ⟨rfl, i + 1, hlt, rfl⟩
      · show xs.length - ((i : Int) + 1).toNat < xs.length - (i : Int).toNat
        omega
    have hadd : (xs.take (i + 1)).countP (pV k) = (xs.take i).countP (pV k) + if pV k x then 1 else 0 := by
      rw [take_snoc hx, List.countP_append]; simp [List.countP_cons]
    refine op_test rfl rfl rfl (fun c1 => ?_) (fun c1 => ?_)
    ·
      repeat (first | refine op_skip rfl ?_ | refine op_ok rfl rfl rfl ?_)
      refine w_end (keep_c rfl (keep_c rfl (keep_c rfl (keep_c rfl (keep_c rfl (keep_c rfl (keep_nil _))))))) (w_seqN (w_condT rfl (w_ops ?_)))
      refine op_ok rfl rfl rfl ?_
      refine op_wrap rfl rfl rfl (by omega) ?_
      refine op_ok rfl rfl rfl ?_
      refine w_end (keep_c rfl (keep_c rfl (keep_c rfl (keep_c rfl (keep_c rfl (keep_nil _)))))) (w_blkN (fin _ ?_ _ _ rfl))
      rw [hadd, if_pos (by unfold pV; rw [c1]; rfl)]
    refine op_ok rfl rfl rfl ?_
    refine op_ok rfl rfl rfl ?_
    refine op_ok rfl rfl rfl ?_
    refine op_idxA rfl rfl rfl ⟨by omega, by omega⟩ ?_
    refine op_ld rfl rfl hr ?_
    refine op_ok rfl rfl rfl ?_
    refine op_wrap rfl rfl rfl (by omega) ?_
    refine op_test rfl rfl rfl (fun c2 => ?_) (fun c2 => ?_)
    ·
      repeat (first | refine op_skip rfl ?_ | refine op_ok rfl rfl rfl ?_)
      refine w_end (keep_c rfl (keep_c rfl (keep_c rfl (keep_c rfl (keep_c rfl (keep_c rfl (keep_nil _))))))) (w_seqN (w_condT rfl (w_ops ?_)))
      refine op_ok rfl rfl rfl ?_
      refine op_wrap rfl rfl rfl (by omega) ?_
      refine op_ok rfl rfl rfl ?_
      refine w_end (keep_c rfl (keep_c rfl (keep_c rfl (keep_c rfl (keep_c rfl (keep_nil _)))))) (w_blkN (fin _ ?_ _ _ rfl))
      rw [hadd, if_pos (by unfold pV; rw [c1, c2]; rfl)]
    repeat (first | refine op_skip rfl ?_ | refine op_ok rfl rfl rfl ?_)
    refine w_end (keep_c rfl (keep_c rfl (keep_c rfl (keep_c rfl (keep_c rfl (keep_c rfl (keep_nil _))))))) (w_seqN (w_condF rfl (w_skip (w_blkN (fin ((xs.take i).countP (pV k)) ?_ _ _ rfl)))))
    rw [hadd, if_neg (by unfold pV; rw [c1, c2]; simp), Nat.add_zero]
  ·
    refine w_end (keep_c rfl (keep_c rfl (keep_c rfl (keep_c rfl (keep_c rfl (keep_c rfl (keep_nil _))))))) (w_seqN (w_condF rfl (w_exit ?_)))
    have : i = xs.length := by simp at hc; omega
    subst this
    refine ⟨rfl, rfl, .int .i64 (xs.length : Nat), .bool false, ?_⟩
    rw [List.take_length]

def I17o (h0 : Heap) (s : SV) (xs : List Int) (E : Env) (h : Heap) : Prop := h = h0 ∧ ∃ k : Nat, 1 ≤ k ∧ k ≤ xs.length + 1 ∧ (∀ j, 1 ≤ j → j < k → xs.countP (pV j) = 1) ∧
  E = [(0, some (.sc s)), (3, some (.sc (.int .i64 xs.length))), (4, some (.sc (.int .i64 ((2 * k : Nat) : Int))))]

def μ17o (n : Nat) (E : Env) (_ : Heap) : Nat := match E.get 4 with
  | some (.sc (.int _ i)) => 2 * n + 2 - i.toNat
  | _ => 0

def R17o (h0 : Heap) (xs : List Int) (ex : Ex) (E : Env) (h : Heap) : Prop := h = h0 ∧ match ex with
  | .rt => E.get 2 = some (.sc (.bool false)) ∧ ¬ RefGood xs
  | .ex i => i = 0 ∧ ∀ j, 1 ≤ j → j ≤ xs.length → xs.countP (pV j) = 1
  | .nm => False

theorem round17o (h0 : Heap) (s : SV) (xs : List Int) (hs : IsInts h0 s xs) (h1 : 1 ≤ xs.length) (h64 : xs.length ≤ 64) (E : Env) (h : Heap) (hI : I17o h0 s xs E h) :
    wA FT HK b17L0 (E.keep [0, 3, 4]) h (wRound (I17o h0 s xs) (μ17o xs.length) (μ17o xs.length E h) (R17o h0 xs)) := by
  obtain ⟨rfl, k, hk1, hk2, hj, rfl⟩ := hI
  refine w_seq (w_seq (w_ops ?_))
  refine op_ok rfl rfl rfl ?_
  refine op_ok rfl rfl rfl ?_
  refine op_wrap rfl rfl rfl (by omega) ?_
  refine op_test rfl rfl rfl (fun hc => ?_) (fun hc => ?_)
  · have hkn : k ≤ xs.length := by simp at hc; omega
    refine w_end (keep_c rfl (keep_c rfl (keep_c rfl (keep_c rfl (keep_nil _))))) (w_seqN (w_condT rfl (w_skip (w_seqN (w_seq (w_blk (w_seq (w_ops ?_))))))))
    refine op_ok rfl rfl rfl ?_
    refine w_end (keep_c rfl (keep_c rfl (keep_c rfl (keep_c rfl (keep_nil _))))) (w_seqN (w_seq (w_seq (w_ops ?_))))
    refine op_ok rfl rfl rfl ?_
    refine w_end (keep_c rfl (keep_c rfl (keep_c rfl (keep_c rfl (keep_c rfl (keep_nil _)))))) (w_seqN (w_blk (w_loop (I17i h s xs k) (μ17i xs.length) (R17i h s xs k) ?_ (round17i h s xs k hs h64 hkn) ?_)))
    · exact ⟨rfl, 0, by omega, rfl⟩
    · intro ex E h' hR
      obtain ⟨rfl, rfl, i, c, rfl⟩ := hR
      refine w_blkX (w_seqN (w_seq (w_ops ?_)))
      refine op_ok rfl rfl rfl ?_
      refine op_test rfl rfl rfl (fun c1 => ?_) (fun c1 => ?_)
      ·
        refine w_end (keep_c rfl (keep_c rfl (keep_c rfl (keep_c rfl (keep_nil _))))) (w_seqN (w_condT rfl (w_seq (w_ops ?_))))
        refine op_ok rfl rfl rfl ?_
        refine w_end (keep_c rfl (keep_nil _)) (w_seqN (w_ret ?_))
        refine ⟨rfl, rfl, fun hg => ?_⟩
        have := hg.2.2 k hk1 hkn
        rw [this] at c1
        simp at c1
      ·
        refine w_end (keep_c rfl (keep_c rfl (keep_c rfl (keep_c rfl (keep_nil _))))) (w_seqN (w_condF rfl (w_skip (w_blkN (w_seqN (w_ops ?_))))))
        refine op_ok rfl rfl rfl ?_
        refine op_wrap rfl rfl rfl (by omega) ?_
        refine op_ok rfl rfl rfl ?_
        refine w_end (keep_c rfl (keep_c rfl (keep_c rfl (keep_nil _)))) (w_roundN ?_ ?_)
        · refine ⟨rfl, k + 1, by omega, by omega, fun j hj1 hj2 => ?_, rfl⟩
          rcases Nat.lt_or_ge j k with h | h
          · exact hj j hj1 h
          · have : j = k := by omega
            subst this
            simp at c1; omega
        · show 2 * xs.length + 2 - (((2 * k : Nat) : Int) + 2).toNat < 2 * xs.length + 2 - ((2 * k : Nat) : Int).toNat
          omega
  ·
    refine w_end (keep_c rfl (keep_c rfl (keep_c rfl (keep_c rfl (keep_nil _))))) (w_seqN (w_condF rfl (w_exit ?_)))
    refine ⟨rfl, rfl, fun j h1 h2 => hj j h1 ?_⟩
    simp at hc; omega

theorem call17 (hk : HK 17 = none) (h0 : Heap) (s : SV) (xs : List Int) (hs : IsInts h0 s xs) : ∃ v h', Cal FT HK 17 [.sc s] h0 v h' ∧ BoolIff (RefGood xs) h0 v h' := by
  refine Cal.of (F := a17) hk rfl rfl ?_
  refine w_seq (w_ops ?_)
  refine op_ok rfl rfl rfl ?_
  refine w_end (keep_c rfl (keep_nil _)) (w_seqN (w_seq (w_ops ?_)))
  refine op_ok rfl rfl rfl ?_
  refine op_len rfl rfl (IsSl.len hs) ?_
  refine op_ok rfl rfl rfl ?_
  refine w_end (keep_c rfl (keep_c rfl (keep_nil _))) (w_seqN (w_seq (w_seq (w_ops ?_))))
  refine op_ok rfl rfl rfl ?_
  refine op_test rfl rfl rfl (fun c1 => ?_) (fun c1 => ?_)
  ·
    repeat (first | refine op_skip rfl ?_ | refine op_ok rfl rfl rfl ?_)
    refine w_end (keep_c rfl (keep_c rfl (keep_c rfl (keep_nil _)))) (w_seqN (w_condT rfl (w_seq (w_ops ?_))))
    refine op_ok rfl rfl rfl ?_
    refine w_end (keep_c rfl (keep_nil _)) (w_seqN (w_ret ?_))
    exact ⟨.inr rfl, ⟨[], by simp⟩, false, rfl, by simp; intro hg; have := hg.1; have := of_decide_eq_true c1; omega⟩
  refine op_ok rfl rfl rfl ?_
  refine op_ok rfl rfl rfl ?_
  refine op_test rfl rfl rfl (fun c2 => ?_) (fun c2 => ?_)
  ·
    repeat (first | refine op_skip rfl ?_ | refine op_ok rfl rfl rfl ?_)
    refine w_end (keep_c rfl (keep_c rfl (keep_c rfl (keep_nil _)))) (w_seqN (w_condT rfl (w_seq (w_ops ?_))))
    refine op_ok rfl rfl rfl ?_
    refine w_end (keep_c rfl (keep_nil _)) (w_seqN (w_ret ?_))
    exact ⟨.inr rfl, ⟨[], by simp⟩, false, rfl, by simp; intro hg; have := hg.2.1; simp at c2; omega⟩
  repeat (first | refine op_skip rfl ?_ | refine op_ok rfl rfl rfl ?_)
  refine w_end (keep_c rfl (keep_c rfl (keep_c rfl (keep_nil _)))) (w_seqN (w_condF rfl (w_skip (w_seqN (w_seq (w_seq (w_ops ?_)))))))
  have h1 : 1 ≤ xs.length := by have := of_decide_eq_false c1; omega
  have h64 : xs.length ≤ 64 := by have := of_decide_eq_false c2; omega
  refine op_ok rfl rfl rfl ?_
  refine w_end (keep_c rfl (keep_c rfl (keep_c rfl (keep_nil _)))) (w_seqN (w_blk (w_loop (I17o h0 s xs) (μ17o xs.length) (R17o h0 xs) ?_ (round17o h0 s xs hs h1 h64) ?_)))
  · exact ⟨rfl, 1, by omega, by omega, fun j h1 h2 => by omega, rfl⟩
  · intro ex E h hR
    obtain ⟨rfl, hR⟩ := hR
    cases ex with
    | nm => exact hR.elim
    | rt =>
      obtain ⟨hE, hng⟩ := hR
      refine ⟨.inr rfl, ?_⟩
      show oK (resultsA [.t 2] E _) _
      simp only [resultsA, resOne, hE, Option.bind_some, AV.pv, Option.map_some, PV.av]
      exact ⟨⟨[], by simp⟩, false, rfl, by simpa using hng⟩
    | ex i =>
      obtain ⟨rfl, hf⟩ := hR
      refine w_blkX (w_seqN (w_seq (w_ops ?_)))
      refine op_ok rfl rfl rfl ?_
      refine w_end (keep_c rfl (keep_nil _)) (w_seqN (w_ret ?_))
      exact ⟨.inr rfl, ⟨[], by simp⟩, true, rfl, by simpa using ⟨h1, h64, hf⟩⟩

end Go.Proofs.Ytooafhbjbpaacaa
