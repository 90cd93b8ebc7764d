/- Contracts: Exponents. -/
import Derived.Test.YtgmfjhmphiiifaaDoorW5
import Derived.Test.YtgmfjhmphiiifaaDoorAb27
namespace Go.Proofs.YtgmfjhmphiiifaaDoor
open Go.Ab
set_option linter.unusedVariables false
set_option maxRecDepth 20000
attribute [local irreducible] wOps wA wSeq wBlk wRound wOpsD
variable {HK : FuncId → Option Hook}

/-- The sum of the exponents of letter j + 1. -/
def cs (w : List Int) (j : Nat) : Int := (w.count ((j : Int) + 1) : Int) - (w.count (-((j : Int) + 1)) : Int)
def vec (r : Nat) (w : List Int) : List Int := (List.range r).map (cs w)

theorem cs_app (a b : List Int) (j : Nat) : cs (a ++ b) j = cs a j + cs b j := by
  simp only [cs, List.count_append]
  omega
theorem cs_one (x : Int) (j : Nat) : cs [x] j = if x = (j : Int) + 1 then 1 else if x = -((j : Int) + 1) then -1 else 0 := by
  simp only [cs, List.count_singleton, beq_iff_eq]
  split <;> split <;> (try split) <;> omega
theorem cs_snoc (a : List Int) (x : Int) (j : Nat) : cs (a ++ [x]) j = cs a j + if x = (j : Int) + 1 then 1 else if x = -((j : Int) + 1) then -1 else 0 := by
  rw [cs_app, cs_one]
theorem cs_bd (w : List Int) (j : Nat) : -(w.length : Int) ≤ cs w j ∧ cs w j ≤ w.length := by
  have h1 : w.count ((j : Int) + 1) ≤ w.length := List.count_le_length
  have h2 : w.count (-((j : Int) + 1)) ≤ w.length := List.count_le_length
  simp only [cs]
  omega
theorem vec_len (r : Nat) (w : List Int) : (vec r w).length = r := by simp [vec]
theorem vec_get {r : Nat} {w : List Int} {j : Nat} (h : j < r) : (vec r w)[j]? = some (cs w j) := by simp [vec, h]
theorem vec_pos {r : Nat} {w : List Int} {x : Int} (h0 : 0 < x) : vec r (w ++ [x]) = (vec r w).set (x - 1).toNat (cs w (x - 1).toNat + 1) := by
  apply List.ext_getElem?
  intro j
  rw [List.getElem?_set]
  by_cases hj : j < r
  · rw [vec_get hj, vec_get hj, vec_len, cs_snoc]
    by_cases e : (x - 1).toNat = j
    · rw [if_pos e, if_pos (by omega), if_pos (by omega), e]
    · rw [if_neg e, if_neg (by omega), if_neg (by omega)]; simp
  · have : ∀ u, (vec r u)[j]? = none := fun u => List.getElem?_eq_none (by rw [vec_len]; omega)
    rw [this, this, vec_len]
    split
    · rw [if_neg (by omega)]
    · rfl
theorem vec_neg {r : Nat} {w : List Int} {x : Int} (h0 : x < 0) : vec r (w ++ [x]) = (vec r w).set (-x - 1).toNat (cs w (-x - 1).toNat - 1) := by
  apply List.ext_getElem?
  intro j
  rw [List.getElem?_set]
  by_cases hj : j < r
  · rw [vec_get hj, vec_get hj, vec_len, cs_snoc]
    by_cases e : (-x - 1).toNat = j
    · have c1 : ¬ x = (j : Int) + 1 := by omega
      have c2 : x = -((j : Int) + 1) := by omega
      rw [if_neg c1, if_pos c2, if_pos e, if_pos (by omega), e]; rfl
    · rw [if_neg e, if_neg (by omega), if_neg (by omega)]; simp
  · have : ∀ u, (vec r u)[j]? = none := fun u => List.getElem?_eq_none (by rw [vec_len]; omega)
    rw [this, this, vec_len]
    split
    · rw [if_neg (by omega)]
    · rfl

def I28 (h0 : Heap) (s l : SV) (r : Nat) (xs : List Int) (E : Env) (h : Heap) : Prop := ∃ (i : Nat), i ≤ xs.length ∧ Ab.Own h0 h s (ints (vec r (xs.take i))) ∧ Ext h0 h ∧
  E = [(6, some (.sc s)), (20, some (.sc l)), (21, some (.sc (.int .i64 xs.length))), (22, some (.sc (.int .i64 i)))]
def R28 (h0 : Heap) (s l : SV) (r : Nat) (xs : List Int) (ex : Ex) (E : Env) (h : Heap) : Prop := ex = .ex 0 ∧ Ab.Own h0 h s (ints (vec r xs)) ∧ Ext h0 h ∧ E.get 6 = some (.sc s)

theorem round28 (h0 : Heap) (s l : SV) (r : Nat) (xs : List Int) (hl : IsInts h0 l xs) (hlen : xs.length ≤ 1000000) (hr : ∀ x ∈ xs, Let r x) (hr2 : r ≤ 1000000) (E : Env) (h : Heap) (hI : I28 h0 s l r xs E h) :
    wA FT HK b28L0 (E.keep [6, 20, 21, 22]) h (wRound (I28 h0 s l r xs) (cnt xs.length 22) (cnt xs.length 22 E h) (R28 h0 s l r xs)) := by
  obtain ⟨i, hi, ho, he, rfl⟩ := hI
  by_cases hlt : i < xs.length
  · obtain ⟨x, hx⟩ : ∃ x, xs[i]? = some x := ⟨_, List.getElem?_eq_getElem hlt⟩
    have hxr := hr x (List.mem_of_getElem? hx)
    unfold Let at hxr
    obtain ⟨id, off, cap, rfl, hrd⟩ := IsInts.at (IsSl.ext hl he) hx
    have hsn := take_snoc hx
    by_cases h0x : 0 < x
    · have hbd := cs_bd (xs.take i) (x - 1).toNat
      simp only [List.length_take] at hbd
      have hv := vec_pos (r := r) (w := xs.take i) h0x
      rw [← hsn] at hv
      have hg : (ints (vec r (xs.take i)))[(x - 1).toNat]? = some (.int .i64 (cs (xs.take i) (x - 1).toNat)) := by rw [List.getElem?_map, vec_get (by omega)]; rfl
      obtain ⟨id2, cap2, rfl, hrd2⟩ := Ab.Own.rd ho hg
      obtain ⟨id3, cap3, h3, e3, hw3, o3, x3, f3, l3⟩ := Ab.Own.wr (i := (x - 1).toNat) he ho (by simp [vec_len]; omega) (.int .i64 (cs (xs.take i) (x - 1).toNat + 1))
      obtain ⟨rfl, -, -, rfl⟩ := SV.slc.inj e3
      have hsz : (ints (vec r (xs.take i))).length = r := by simp [vec_len]
      repeat' (first
        | refine w_seq ?_
        | refine w_seqN ?_
        | refine w_seqX ?_
        | refine w_seqR ?_
        | refine w_blk ?_
        | refine w_blkN ?_
        | refine w_blkX ?_
        | refine w_blkR ?_
        | refine w_skip ?_
        | refine w_ret ?_
        | refine w_exit ?_
        | refine w_ops ?_
        | refine w_opsD ?_
        | refine d_one ?_
        | refine d_nil ?_
        | ((refine i_cond ?_); first | refine w_condT rfl ?_ | refine w_condF rfl ?_)
        | ((refine i_nil ?_); first | refine d_same ?_ | refine d_ord ?_ | refine d_ext ⟨_, rfl⟩ ?_ | refine d_ext (by assumption) ?_ | refine w_end0 ?_ | refine w_end1 rfl ?_ | refine w_end2 rfl rfl ?_ | refine w_end3 rfl rfl rfl ?_ | refine w_end4 rfl rfl rfl rfl ?_ | refine w_end5 rfl rfl rfl rfl rfl ?_ | refine w_end6 rfl rfl rfl rfl rfl rfl ?_ | refine w_end7 rfl rfl rfl rfl rfl rfl rfl ?_ | refine w_end8 rfl rfl rfl rfl rfl rfl rfl rfl ?_ | refine w_end9 rfl rfl rfl rfl rfl rfl rfl rfl rfl ?_ | refine w_end10 rfl rfl rfl rfl rfl rfl rfl rfl rfl rfl ?_ | refine w_end11 rfl rfl rfl rfl rfl rfl rfl rfl rfl rfl rfl ?_ | refine w_end12 rfl rfl rfl rfl rfl rfl rfl rfl rfl rfl rfl rfl ?_ | refine w_end13 rfl rfl rfl rfl rfl rfl rfl rfl rfl rfl rfl rfl rfl ?_ | refine w_end14 rfl rfl rfl rfl rfl rfl rfl rfl rfl rfl rfl rfl rfl rfl ?_ | refine w_end15 rfl rfl rfl rfl rfl rfl rfl rfl rfl rfl rfl rfl rfl rfl rfl ?_ | refine w_end16 rfl rfl rfl rfl rfl rfl rfl rfl rfl rfl rfl rfl rfl rfl rfl rfl ?_)
        | ((refine i_cons ?_); first
          | refine k_idxA rfl rfl (by omega) ?_
          | refine k_ld rfl hrd ?_
          | refine k_ld rfl hrd2 ?_
          | refine k_st rfl rfl hw3 ?_
          | refine k_skip rfl ?_
          | refine k_want rfl ?_
          | refine k_mv rfl ?_
          | refine k_pickT rfl rfl ?_
          | refine k_pickF rfl rfl ?_
          | refine k_notT rfl ?_
          | refine k_notF rfl ?_
          | refine k_add rfl rfl (by omega) ?_
          | refine k_sub rfl rfl (by omega) ?_
          | refine k_mul rfl rfl (by omega) ?_
          | refine k_neg rfl (by omega) ?_
          | refine k_quo rfl rfl (by omega) ?_
          | refine k_rem rfl rfl (by omega) ?_
          | refine k_conv rfl (by omega) ?_
          | refine k_max rfl rfl ?_
          | refine k_min rfl rfl ?_
          | refine k_lssT rfl rfl (by omega) ?_
          | refine k_lssF rfl rfl (by omega) ?_
          | refine k_lss rfl rfl (fun hc => ?_) (fun hc => ?_)
          | refine k_leqT rfl rfl (by omega) ?_
          | refine k_leqF rfl rfl (by omega) ?_
          | refine k_leq rfl rfl (fun hc => ?_) (fun hc => ?_)
          | refine k_gtrT rfl rfl (by omega) ?_
          | refine k_gtrF rfl rfl (by omega) ?_
          | refine k_gtr rfl rfl (fun hc => ?_) (fun hc => ?_)
          | refine k_geqT rfl rfl (by omega) ?_
          | refine k_geqF rfl rfl (by omega) ?_
          | refine k_geq rfl rfl (fun hc => ?_) (fun hc => ?_)
          | refine k_eqlT rfl rfl (by omega) ?_
          | refine k_eqlF rfl rfl (by omega) ?_
          | refine k_eql rfl rfl (fun hc => ?_) (fun hc => ?_)
          | refine k_neqT rfl rfl (by omega) ?_
          | refine k_neqF rfl rfl (by omega) ?_
          | refine k_neq rfl rfl (fun hc => ?_) (fun hc => ?_)
          | refine k_len rfl rfl ?_
          | refine k_ok rfl rfl ?_))
      refine w_roundN ⟨i + 1, by omega, ?_, x3, rfl⟩ (by simp [cnt, Env.get]; omega)
      rw [hv]
      simpa only [ints, List.map_set] using o3
    · have hbd := cs_bd (xs.take i) (-x - 1).toNat
      simp only [List.length_take] at hbd
      have hv := vec_neg (r := r) (w := xs.take i) (x := x) (by omega)
      rw [← hsn] at hv
      have hg : (ints (vec r (xs.take i)))[(-x - 1).toNat]? = some (.int .i64 (cs (xs.take i) (-x - 1).toNat)) := by rw [List.getElem?_map, vec_get (by omega)]; rfl
      obtain ⟨id2, cap2, rfl, hrd2⟩ := Ab.Own.rd ho hg
      obtain ⟨id3, cap3, h3, e3, hw3, o3, x3, f3, l3⟩ := Ab.Own.wr (i := (-x - 1).toNat) he ho (by simp [vec_len]; omega) (.int .i64 (cs (xs.take i) (-x - 1).toNat - 1))
      obtain ⟨rfl, -, -, rfl⟩ := SV.slc.inj e3
      have hsz : (ints (vec r (xs.take i))).length = r := by simp [vec_len]
      repeat' (first
        | refine w_seq ?_
        | refine w_seqN ?_
        | refine w_seqX ?_
        | refine w_seqR ?_
        | refine w_blk ?_
        | refine w_blkN ?_
        | refine w_blkX ?_
        | refine w_blkR ?_
        | refine w_skip ?_
        | refine w_ret ?_
        | refine w_exit ?_
        | refine w_ops ?_
        | refine w_opsD ?_
        | refine d_one ?_
        | refine d_nil ?_
        | ((refine i_cond ?_); first | refine w_condT rfl ?_ | refine w_condF rfl ?_)
        | ((refine i_nil ?_); first | refine d_same ?_ | refine d_ord ?_ | refine d_ext ⟨_, rfl⟩ ?_ | refine d_ext (by assumption) ?_ | refine w_end0 ?_ | refine w_end1 rfl ?_ | refine w_end2 rfl rfl ?_ | refine w_end3 rfl rfl rfl ?_ | refine w_end4 rfl rfl rfl rfl ?_ | refine w_end5 rfl rfl rfl rfl rfl ?_ | refine w_end6 rfl rfl rfl rfl rfl rfl ?_ | refine w_end7 rfl rfl rfl rfl rfl rfl rfl ?_ | refine w_end8 rfl rfl rfl rfl rfl rfl rfl rfl ?_ | refine w_end9 rfl rfl rfl rfl rfl rfl rfl rfl rfl ?_ | refine w_end10 rfl rfl rfl rfl rfl rfl rfl rfl rfl rfl ?_ | refine w_end11 rfl rfl rfl rfl rfl rfl rfl rfl rfl rfl rfl ?_ | refine w_end12 rfl rfl rfl rfl rfl rfl rfl rfl rfl rfl rfl rfl ?_ | refine w_end13 rfl rfl rfl rfl rfl rfl rfl rfl rfl rfl rfl rfl rfl ?_ | refine w_end14 rfl rfl rfl rfl rfl rfl rfl rfl rfl rfl rfl rfl rfl rfl ?_ | refine w_end15 rfl rfl rfl rfl rfl rfl rfl rfl rfl rfl rfl rfl rfl rfl rfl ?_ | refine w_end16 rfl rfl rfl rfl rfl rfl rfl rfl rfl rfl rfl rfl rfl rfl rfl rfl ?_)
        | ((refine i_cons ?_); first
          | refine k_idxA rfl rfl (by omega) ?_
          | refine k_ld rfl hrd ?_
          | refine k_ld rfl hrd2 ?_
          | refine k_st rfl rfl hw3 ?_
          | refine k_skip rfl ?_
          | refine k_want rfl ?_
          | refine k_mv rfl ?_
          | refine k_pickT rfl rfl ?_
          | refine k_pickF rfl rfl ?_
          | refine k_notT rfl ?_
          | refine k_notF rfl ?_
          | refine k_add rfl rfl (by omega) ?_
          | refine k_sub rfl rfl (by omega) ?_
          | refine k_mul rfl rfl (by omega) ?_
          | refine k_neg rfl (by omega) ?_
          | refine k_quo rfl rfl (by omega) ?_
          | refine k_rem rfl rfl (by omega) ?_
          | refine k_conv rfl (by omega) ?_
          | refine k_max rfl rfl ?_
          | refine k_min rfl rfl ?_
          | refine k_lssT rfl rfl (by omega) ?_
          | refine k_lssF rfl rfl (by omega) ?_
          | refine k_lss rfl rfl (fun hc => ?_) (fun hc => ?_)
          | refine k_leqT rfl rfl (by omega) ?_
          | refine k_leqF rfl rfl (by omega) ?_
          | refine k_leq rfl rfl (fun hc => ?_) (fun hc => ?_)
          | refine k_gtrT rfl rfl (by omega) ?_
          | refine k_gtrF rfl rfl (by omega) ?_
          | refine k_gtr rfl rfl (fun hc => ?_) (fun hc => ?_)
          | refine k_geqT rfl rfl (by omega) ?_
          | refine k_geqF rfl rfl (by omega) ?_
          | refine k_geq rfl rfl (fun hc => ?_) (fun hc => ?_)
          | refine k_eqlT rfl rfl (by omega) ?_
          | refine k_eqlF rfl rfl (by omega) ?_
          | refine k_eql rfl rfl (fun hc => ?_) (fun hc => ?_)
          | refine k_neqT rfl rfl (by omega) ?_
          | refine k_neqF rfl rfl (by omega) ?_
          | refine k_neq rfl rfl (fun hc => ?_) (fun hc => ?_)
          | refine k_len rfl rfl ?_
          | refine k_ok rfl rfl ?_))
      refine w_roundN ⟨i + 1, by omega, ?_, x3, rfl⟩ (by simp [cnt, Env.get]; omega)
      rw [hv]
      simpa only [ints, List.map_set] using o3
  · repeat' (first
   | refine w_seq ?_
   | refine w_seqN ?_
   | refine w_seqX ?_
   | refine w_seqR ?_
   | refine w_blk ?_
   | refine w_blkN ?_
   | refine w_blkX ?_
   | refine w_blkR ?_
   | refine w_skip ?_
   | refine w_ret ?_
   | refine w_exit ?_
   | refine w_ops ?_
   | refine w_opsD ?_
   | refine d_one ?_
   | refine d_nil ?_
   | ((refine i_cond ?_); first | refine w_condT rfl ?_ | refine w_condF rfl ?_)
   | ((refine i_nil ?_); first | refine d_same ?_ | refine d_ord ?_ | refine d_ext ⟨_, rfl⟩ ?_ | refine d_ext (by assumption) ?_ | refine w_end0 ?_ | refine w_end1 rfl ?_ | refine w_end2 rfl rfl ?_ | refine w_end3 rfl rfl rfl ?_ | refine w_end4 rfl rfl rfl rfl ?_ | refine w_end5 rfl rfl rfl rfl rfl ?_ | refine w_end6 rfl rfl rfl rfl rfl rfl ?_ | refine w_end7 rfl rfl rfl rfl rfl rfl rfl ?_ | refine w_end8 rfl rfl rfl rfl rfl rfl rfl rfl ?_ | refine w_end9 rfl rfl rfl rfl rfl rfl rfl rfl rfl ?_ | refine w_end10 rfl rfl rfl rfl rfl rfl rfl rfl rfl rfl ?_ | refine w_end11 rfl rfl rfl rfl rfl rfl rfl rfl rfl rfl rfl ?_ | refine w_end12 rfl rfl rfl rfl rfl rfl rfl rfl rfl rfl rfl rfl ?_ | refine w_end13 rfl rfl rfl rfl rfl rfl rfl rfl rfl rfl rfl rfl rfl ?_ | refine w_end14 rfl rfl rfl rfl rfl rfl rfl rfl rfl rfl rfl rfl rfl rfl ?_ | refine w_end15 rfl rfl rfl rfl rfl rfl rfl rfl rfl rfl rfl rfl rfl rfl rfl ?_ | refine w_end16 rfl rfl rfl rfl rfl rfl rfl rfl rfl rfl rfl rfl rfl rfl rfl rfl ?_)
   | ((refine i_cons ?_); first
     | refine k_skip rfl ?_
     | refine k_want rfl ?_
     | refine k_mv rfl ?_
     | refine k_pickT rfl rfl ?_
     | refine k_pickF rfl rfl ?_
     | refine k_notT rfl ?_
     | refine k_notF rfl ?_
     | refine k_add rfl rfl (by omega) ?_
     | refine k_sub rfl rfl (by omega) ?_
     | refine k_mul rfl rfl (by omega) ?_
     | refine k_neg rfl (by omega) ?_
     | refine k_quo rfl rfl (by omega) ?_
     | refine k_rem rfl rfl (by omega) ?_
     | refine k_conv rfl (by omega) ?_
     | refine k_max rfl rfl ?_
     | refine k_min rfl rfl ?_
     | refine k_lssT rfl rfl (by omega) ?_
     | refine k_lssF rfl rfl (by omega) ?_
     | refine k_lss rfl rfl (fun hc => ?_) (fun hc => ?_)
     | refine k_leqT rfl rfl (by omega) ?_
     | refine k_leqF rfl rfl (by omega) ?_
     | refine k_leq rfl rfl (fun hc => ?_) (fun hc => ?_)
     | refine k_gtrT rfl rfl (by omega) ?_
     | refine k_gtrF rfl rfl (by omega) ?_
     | refine k_gtr rfl rfl (fun hc => ?_) (fun hc => ?_)
     | refine k_geqT rfl rfl (by omega) ?_
     | refine k_geqF rfl rfl (by omega) ?_
     | refine k_geq rfl rfl (fun hc => ?_) (fun hc => ?_)
     | refine k_eqlT rfl rfl (by omega) ?_
     | refine k_eqlF rfl rfl (by omega) ?_
     | refine k_eql rfl rfl (fun hc => ?_) (fun hc => ?_)
     | refine k_neqT rfl rfl (by omega) ?_
     | refine k_neqF rfl rfl (by omega) ?_
     | refine k_neq rfl rfl (fun hc => ?_) (fun hc => ?_)
     | refine k_len rfl rfl ?_
     | refine k_ok rfl rfl ?_))
    refine w_roundX ⟨rfl, ?_, he, rfl⟩
    rwa [List.take_of_length_le (by omega)] at ho

theorem call28 (hk : HK 28 = none) (hk2 : HK 16 = none) (h0 : Heap) (l : SV) (xs : List Int) (hl : IsInts h0 l xs) (hlen : xs.length ≤ 100000) (r : Int) (hr : -9223372036854775808 ≤ r ∧ r ≤ 20) (hv : ∀ x ∈ xs, 1 ≤ r ∧ Let r x) :
    ∃ v h', Cal FT HK 28 [.sc l, .sc (.int .i64 r)] h0 v h' ∧ ∃ s', v = .tup [.sc s', .sc (.int .i64 0)] ∧ IsInts h' s' (vec r.toNat xs) ∧ Ext h0 h' := by
  refine Cal.of (F := a28) hk rfl rfl ?_
  have hln := IsSl.len hl
  have k1 := call16 (HK := HK) hk2 h0 l xs r (by omega) (by omega) hl
  rw [decide_eq_true hv] at k1
  obtain ⟨m, hm⟩ : ∃ m : Nat, max r 0 = m := ⟨(max r 0).toNat, by omega⟩
  have hmr : m = r.toNat := by omega
  have hbd : (0 : Int) ≤ max r 0 ∧ max r 0 ≤ max r 0 ∧ max r 0 * (8 + 1 : Nat) ≤ bigN := by simp [bigN]; omega
  repeat' (first
    | refine w_seq ?_
    | refine w_seqN ?_
    | refine w_seqX ?_
    | refine w_seqR ?_
    | refine w_blk ?_
    | refine w_blkN ?_
    | refine w_blkX ?_
    | refine w_blkR ?_
    | refine w_skip ?_
    | refine w_ret ?_
    | refine w_exit ?_
    | refine w_ops ?_
    | refine w_opsD ?_
    | refine d_one ?_
    | refine d_nil ?_
    | ((refine i_cond ?_); first | refine w_condT rfl ?_ | refine w_condF rfl ?_)
    | ((refine i_nil ?_); first | refine d_same ?_ | refine d_ord ?_ | refine d_ext ⟨_, rfl⟩ ?_ | refine d_ext (by assumption) ?_ | refine w_end0 ?_ | refine w_end1 rfl ?_ | refine w_end2 rfl rfl ?_ | refine w_end3 rfl rfl rfl ?_ | refine w_end4 rfl rfl rfl rfl ?_ | refine w_end5 rfl rfl rfl rfl rfl ?_ | refine w_end6 rfl rfl rfl rfl rfl rfl ?_ | refine w_end7 rfl rfl rfl rfl rfl rfl rfl ?_ | refine w_end8 rfl rfl rfl rfl rfl rfl rfl rfl ?_ | refine w_end9 rfl rfl rfl rfl rfl rfl rfl rfl rfl ?_ | refine w_end10 rfl rfl rfl rfl rfl rfl rfl rfl rfl rfl ?_ | refine w_end11 rfl rfl rfl rfl rfl rfl rfl rfl rfl rfl rfl ?_ | refine w_end12 rfl rfl rfl rfl rfl rfl rfl rfl rfl rfl rfl rfl ?_ | refine w_end13 rfl rfl rfl rfl rfl rfl rfl rfl rfl rfl rfl rfl rfl ?_ | refine w_end14 rfl rfl rfl rfl rfl rfl rfl rfl rfl rfl rfl rfl rfl rfl ?_ | refine w_end15 rfl rfl rfl rfl rfl rfl rfl rfl rfl rfl rfl rfl rfl rfl rfl ?_ | refine w_end16 rfl rfl rfl rfl rfl rfl rfl rfl rfl rfl rfl rfl rfl rfl rfl rfl ?_)
    | ((refine i_cons ?_); first
      | refine k_len rfl hln ?_
      | (refine k_call rfl k1 ?_; rintro v h' ⟨rfl, rfl⟩)
      | (refine k_make rfl rfl hbd ?_; intro ho)
      | refine k_skip rfl ?_
      | refine k_want rfl ?_
      | refine k_mv rfl ?_
      | refine k_pickT rfl rfl ?_
      | refine k_pickF rfl rfl ?_
      | refine k_notT rfl ?_
      | refine k_notF rfl ?_
      | refine k_add rfl rfl (by omega) ?_
      | refine k_sub rfl rfl (by omega) ?_
      | refine k_mul rfl rfl (by omega) ?_
      | refine k_neg rfl (by omega) ?_
      | refine k_quo rfl rfl (by omega) ?_
      | refine k_rem rfl rfl (by omega) ?_
      | refine k_conv rfl (by omega) ?_
      | refine k_max rfl rfl ?_
      | refine k_min rfl rfl ?_
      | refine k_lssT rfl rfl (by omega) ?_
      | refine k_lssF rfl rfl (by omega) ?_
      | refine k_lss rfl rfl (fun hc => ?_) (fun hc => ?_)
      | refine k_leqT rfl rfl (by omega) ?_
      | refine k_leqF rfl rfl (by omega) ?_
      | refine k_leq rfl rfl (fun hc => ?_) (fun hc => ?_)
      | refine k_gtrT rfl rfl (by omega) ?_
      | refine k_gtrF rfl rfl (by omega) ?_
      | refine k_gtr rfl rfl (fun hc => ?_) (fun hc => ?_)
      | refine k_geqT rfl rfl (by omega) ?_
      | refine k_geqF rfl rfl (by omega) ?_
      | refine k_geq rfl rfl (fun hc => ?_) (fun hc => ?_)
      | refine k_eqlT rfl rfl (by omega) ?_
      | refine k_eqlF rfl rfl (by omega) ?_
      | refine k_eql rfl rfl (fun hc => ?_) (fun hc => ?_)
      | refine k_neqT rfl rfl (by omega) ?_
      | refine k_neqF rfl rfl (by omega) ?_
      | refine k_neq rfl rfl (fun hc => ?_) (fun hc => ?_)
      | refine k_len rfl rfl ?_
      | refine k_ok rfl rfl ?_))
  have hrep : rep [SV.int .i64 0] (max r 0).toNat = ints (vec r.toNat []) := by
    rw [show (max r 0).toNat = r.toNat by omega]
    have : ∀ k : Nat, rep [SV.int .i64 0] k = List.replicate k (.int .i64 0) := fun k => by
      induction k with
      | zero => rfl
      | succ k ih => simp only [rep] at *; rw [ih]; rfl
    rw [this]
    apply List.ext_getElem
    · simp [vec]
    · intro i h1 h2
      simp [vec, cs]
  rw [hrep] at ho ⊢
  refine w_loop (I28 h' _ l r.toNat xs) (cnt xs.length 22) (R28 h' _ l r.toNat xs) ⟨0, Nat.zero_le _, ho, ⟨_, rfl⟩, rfl⟩ (round28 h' _ l r.toNat xs hl (by omega) (fun x hx => by have := hv x hx; unfold Let at *; omega) (by omega)) ?_
  rintro ex E' h2 ⟨rfl, q1, q2, hE⟩
  repeat' (first
    | refine w_seq ?_
    | refine w_seqN ?_
    | refine w_seqX ?_
    | refine w_seqR ?_
    | refine w_blk ?_
    | refine w_blkN ?_
    | refine w_blkX ?_
    | refine w_blkR ?_
    | refine w_skip ?_
    | refine w_ret ?_
    | refine w_exit ?_
    | refine w_ops ?_
    | refine w_opsD ?_
    | refine d_one ?_
    | refine d_nil ?_
    | ((refine i_cond ?_); first | refine w_condT rfl ?_ | refine w_condF rfl ?_)
    | ((refine i_nil ?_); first | refine d_same ?_ | refine d_ord ?_ | refine d_ext ⟨_, rfl⟩ ?_ | refine d_ext (by assumption) ?_ | refine w_end0 ?_ | refine w_end1 rfl ?_ | refine w_end2 rfl rfl ?_ | refine w_end3 rfl rfl rfl ?_ | refine w_end4 rfl rfl rfl rfl ?_ | refine w_end5 rfl rfl rfl rfl rfl ?_ | refine w_end6 rfl rfl rfl rfl rfl rfl ?_ | refine w_end7 rfl rfl rfl rfl rfl rfl rfl ?_ | refine w_end8 rfl rfl rfl rfl rfl rfl rfl rfl ?_ | refine w_end9 rfl rfl rfl rfl rfl rfl rfl rfl rfl ?_ | refine w_end10 rfl rfl rfl rfl rfl rfl rfl rfl rfl rfl ?_ | refine w_end11 rfl rfl rfl rfl rfl rfl rfl rfl rfl rfl rfl ?_ | refine w_end12 rfl rfl rfl rfl rfl rfl rfl rfl rfl rfl rfl rfl ?_ | refine w_end13 rfl rfl rfl rfl rfl rfl rfl rfl rfl rfl rfl rfl rfl ?_ | refine w_end14 rfl rfl rfl rfl rfl rfl rfl rfl rfl rfl rfl rfl rfl rfl ?_ | refine w_end15 rfl rfl rfl rfl rfl rfl rfl rfl rfl rfl rfl rfl rfl rfl rfl ?_ | refine w_end16 rfl rfl rfl rfl rfl rfl rfl rfl rfl rfl rfl rfl rfl rfl rfl rfl ?_)
    | ((refine i_cons ?_); first
      | refine k_mv hE ?_
      | refine k_skip rfl ?_
      | refine k_want rfl ?_
      | refine k_mv rfl ?_
      | refine k_pickT rfl rfl ?_
      | refine k_pickF rfl rfl ?_
      | refine k_notT rfl ?_
      | refine k_notF rfl ?_
      | refine k_add rfl rfl (by omega) ?_
      | refine k_sub rfl rfl (by omega) ?_
      | refine k_mul rfl rfl (by omega) ?_
      | refine k_neg rfl (by omega) ?_
      | refine k_quo rfl rfl (by omega) ?_
      | refine k_rem rfl rfl (by omega) ?_
      | refine k_conv rfl (by omega) ?_
      | refine k_max rfl rfl ?_
      | refine k_min rfl rfl ?_
      | refine k_lssT rfl rfl (by omega) ?_
      | refine k_lssF rfl rfl (by omega) ?_
      | refine k_lss rfl rfl (fun hc => ?_) (fun hc => ?_)
      | refine k_leqT rfl rfl (by omega) ?_
      | refine k_leqF rfl rfl (by omega) ?_
      | refine k_leq rfl rfl (fun hc => ?_) (fun hc => ?_)
      | refine k_gtrT rfl rfl (by omega) ?_
      | refine k_gtrF rfl rfl (by omega) ?_
      | refine k_gtr rfl rfl (fun hc => ?_) (fun hc => ?_)
      | refine k_geqT rfl rfl (by omega) ?_
      | refine k_geqF rfl rfl (by omega) ?_
      | refine k_geq rfl rfl (fun hc => ?_) (fun hc => ?_)
      | refine k_eqlT rfl rfl (by omega) ?_
      | refine k_eqlF rfl rfl (by omega) ?_
      | refine k_eql rfl rfl (fun hc => ?_) (fun hc => ?_)
      | refine k_neqT rfl rfl (by omega) ?_
      | refine k_neqF rfl rfl (by omega) ?_
      | refine k_neq rfl rfl (fun hc => ?_) (fun hc => ?_)
      | refine k_len rfl rfl ?_
      | refine k_ok rfl rfl ?_))
  exact ⟨.inr rfl, _, rfl, Ab.Own.ids q1, q2⟩

theorem call28e (hk : HK 28 = none) (hk2 : HK 16 = none) (h0 : Heap) (l : SV) (xs : List Int) (hl : IsInts h0 l xs) (hlen : xs.length ≤ 100000) (r : Int) (hr2 : -9223372036854775808 ≤ r ∧ r ≤ 20) (hv : ¬ ∀ x ∈ xs, 1 ≤ r ∧ Let r x) :
    ∃ v h', Cal FT HK 28 [.sc l, .sc (.int .i64 r)] h0 v h' ∧ v = .tup [.sc .nilS, .sc (.int .i64 2)] ∧ h' = h0 := by
  refine Cal.of (F := a28) hk rfl rfl ?_
  have hln := IsSl.len hl
  have k1 := call16 (HK := HK) hk2 h0 l xs r (by omega) (by omega) hl
  rw [decide_eq_false hv] at k1
  repeat' (first
    | refine w_seq ?_
    | refine w_seqN ?_
    | refine w_seqX ?_
    | refine w_seqR ?_
    | refine w_blk ?_
    | refine w_blkN ?_
    | refine w_blkX ?_
    | refine w_blkR ?_
    | refine w_skip ?_
    | refine w_ret ?_
    | refine w_exit ?_
    | refine w_ops ?_
    | refine w_opsD ?_
    | refine d_one ?_
    | refine d_nil ?_
    | ((refine i_cond ?_); first | refine w_condT rfl ?_ | refine w_condF rfl ?_)
    | ((refine i_nil ?_); first | refine d_same ?_ | refine d_ord ?_ | refine d_ext ⟨_, rfl⟩ ?_ | refine d_ext (by assumption) ?_ | refine w_end0 ?_ | refine w_end1 rfl ?_ | refine w_end2 rfl rfl ?_ | refine w_end3 rfl rfl rfl ?_ | refine w_end4 rfl rfl rfl rfl ?_ | refine w_end5 rfl rfl rfl rfl rfl ?_ | refine w_end6 rfl rfl rfl rfl rfl rfl ?_ | refine w_end7 rfl rfl rfl rfl rfl rfl rfl ?_ | refine w_end8 rfl rfl rfl rfl rfl rfl rfl rfl ?_ | refine w_end9 rfl rfl rfl rfl rfl rfl rfl rfl rfl ?_ | refine w_end10 rfl rfl rfl rfl rfl rfl rfl rfl rfl rfl ?_ | refine w_end11 rfl rfl rfl rfl rfl rfl rfl rfl rfl rfl rfl ?_ | refine w_end12 rfl rfl rfl rfl rfl rfl rfl rfl rfl rfl rfl rfl ?_ | refine w_end13 rfl rfl rfl rfl rfl rfl rfl rfl rfl rfl rfl rfl rfl ?_ | refine w_end14 rfl rfl rfl rfl rfl rfl rfl rfl rfl rfl rfl rfl rfl rfl ?_ | refine w_end15 rfl rfl rfl rfl rfl rfl rfl rfl rfl rfl rfl rfl rfl rfl rfl ?_ | refine w_end16 rfl rfl rfl rfl rfl rfl rfl rfl rfl rfl rfl rfl rfl rfl rfl rfl ?_)
    | ((refine i_cons ?_); first
      | refine k_len rfl hln ?_
      | (refine k_call rfl k1 ?_; rintro v h' ⟨rfl, rfl⟩)
      | refine k_skip rfl ?_
      | refine k_want rfl ?_
      | refine k_mv rfl ?_
      | refine k_pickT rfl rfl ?_
      | refine k_pickF rfl rfl ?_
      | refine k_notT rfl ?_
      | refine k_notF rfl ?_
      | refine k_add rfl rfl (by omega) ?_
      | refine k_sub rfl rfl (by omega) ?_
      | refine k_mul rfl rfl (by omega) ?_
      | refine k_neg rfl (by omega) ?_
      | refine k_quo rfl rfl (by omega) ?_
      | refine k_rem rfl rfl (by omega) ?_
      | refine k_conv rfl (by omega) ?_
      | refine k_max rfl rfl ?_
      | refine k_min rfl rfl ?_
      | refine k_lssT rfl rfl (by omega) ?_
      | refine k_lssF rfl rfl (by omega) ?_
      | refine k_lss rfl rfl (fun hc => ?_) (fun hc => ?_)
      | refine k_leqT rfl rfl (by omega) ?_
      | refine k_leqF rfl rfl (by omega) ?_
      | refine k_leq rfl rfl (fun hc => ?_) (fun hc => ?_)
      | refine k_gtrT rfl rfl (by omega) ?_
      | refine k_gtrF rfl rfl (by omega) ?_
      | refine k_gtr rfl rfl (fun hc => ?_) (fun hc => ?_)
      | refine k_geqT rfl rfl (by omega) ?_
      | refine k_geqF rfl rfl (by omega) ?_
      | refine k_geq rfl rfl (fun hc => ?_) (fun hc => ?_)
      | refine k_eqlT rfl rfl (by omega) ?_
      | refine k_eqlF rfl rfl (by omega) ?_
      | refine k_eql rfl rfl (fun hc => ?_) (fun hc => ?_)
      | refine k_neqT rfl rfl (by omega) ?_
      | refine k_neqF rfl rfl (by omega) ?_
      | refine k_neq rfl rfl (fun hc => ?_) (fun hc => ?_)
      | refine k_len rfl rfl ?_
      | refine k_ok rfl rfl ?_))
  exact ⟨.inr rfl, rfl, rfl⟩
end Go.Proofs.YtgmfjhmphiiifaaDoor
