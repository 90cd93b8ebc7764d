/- DowkerFull: plainly: the code 2, 4, .. is valid; a long numeral is no number. Cells of three values; a row of bytes that is filled. -/
import Derived.Test.YtooafhbjbpaacaaDoorT3
import Derived.Test.YtooafhbjbpaacaaDoorAb32
namespace Go.Proofs.YtooafhbjbpaacaaDoor
open Go.Ab
set_option linter.unusedVariables false
set_option linter.unusedSimpArgs false

/-! ### The code -/
def evl (n : Nat) : List Int := (evens n).map fun k : Nat => (k : Int)
theorem evl_len (n : Nat) : (evl n).length = n := by simp [evl, evens_len]
theorem evl_succ (n : Nat) : evl (n + 1) = evl n ++ [2 * ((n : Int) + 1)] := by
  simp only [evl, evens, List.range_succ, List.map_append, List.map_cons, List.map_nil]
  congr 1
theorem evl_good {n : Nat} (h1 : 1 ≤ n) (h2 : n ≤ 64) : Good (evl n) := by
  have hm : (evl n).map Int.natAbs = evens n := by
    simp only [evl, List.map_map]
    conv => rhs; rw [← List.map_id (evens n)]
    exact List.map_congr_left fun k _ => by simp
  refine ⟨by rw [evl_len]; exact h1, by rw [evl_len]; exact h2, fun x hx => ?_, by rw [hm]; exact evens_nodup n⟩
  rw [evl_len]
  refine fit_mem.2 ?_
  rw [← hm]
  exact List.mem_map.2 ⟨x, hx, rfl⟩

/-! ### The long numeral -/
theorem parse_long : ∀ (k acc v : Nat), Lib.parseUint10 acc (List.replicate k 50) = .ok v → (acc + 1) * 2 ^ k ≤ v + 1
  | 0, acc, v, h => by
    simp only [List.replicate_zero, Lib.parseUint10] at h
    injection h with h
    omega
  | k + 1, acc, v, h => by
    rw [List.replicate_succ] at h
    simp only [Lib.parseUint10] at h
    rw [if_pos (by decide)] at h
    split at h
    · cases h
    · split at h
      · cases h
      · have ih := parse_long k _ v h
        have e : ((50 : UInt8).toNat - 48) = 2 := by decide
        rw [e] at ih
        have h2 : (acc + 1) * 2 ≤ acc * 10 + 2 + 1 := by omega
        have := Nat.mul_le_mul_right (2 ^ k) h2
        rw [Nat.pow_succ, Nat.mul_comm (2 ^ k) 2, ← Nat.mul_assoc]
        omega
theorem atoi_long {k : Nat} (hk : 65 ≤ k) (v : Int) : Lib.atoiAll (List.replicate k 50) ≠ .ok v := by
  intro h
  obtain ⟨j, rfl⟩ : ∃ j, k = j + 1 := ⟨k - 1, by omega⟩
  rw [List.replicate_succ, Lib.atoiAll_plain _ _ (by decide) (by decide), ← List.replicate_succ] at h
  have : ∃ u, Lib.parseMag (List.replicate (j + 1) 50) = .ok u := by
    cases hp : Lib.parseMag (List.replicate (j + 1) 50) with
    | ok u => exact ⟨u, rfl⟩
    | _ => rw [hp] at h; simp [Lib.signless] at h
  obtain ⟨u, hu⟩ := this
  unfold Lib.parseMag at hu
  rw [if_neg (by simp)] at hu
  have h1 := parse_long _ _ _ hu
  have h2 := Lib.parseUint10_lt _ _ _ (by decide) hu
  have h3 : 2 ^ 65 ≤ 2 ^ (j + 1) := Nat.pow_le_pow_right (by decide) hk
  have h4 : (2 : Nat) ^ 65 = 36893488147419103232 := by decide
  omega
theorem parse_none {k : Nat} (hk : 65 ≤ k) : parseL (List.replicate k 50) = none := by
  have hf : Lib.fieldsD (List.replicate k 50) = [List.replicate k 50] := by
    rw [Lib.fieldsD_ascii _ (fun b hb => by rw [List.eq_of_mem_replicate hb]; decide)]
    have hg := go_word (List.replicate k 50) [] [] (fun c hc => by rw [List.eq_of_mem_replicate hc]; rfl)
    rw [List.append_nil, List.nil_append] at hg
    unfold Lib.fields
    rw [hg, go_end _ (fun e => by have := congrArg List.length e; rw [List.length_replicate, List.length_nil] at this; omega)]
  unfold parseL
  rw [hf, numL_fail (fun v => atoi_long hk v) (List.mem_singleton.2 rfl)]

/-! ### Cells of three values -/
def Cel3 (h : Heap) (q : Nat) (a b c : SV) : Prop := h[q]? = some (.cells [a, b, c] true 0)
theorem Cel3.lt {h : Heap} {q : Nat} {a b c : SV} (k : Cel3 h q a b c) : q < h.length := (List.getElem?_eq_some_iff.1 k).1
theorem Cel3.ext {h h' : Heap} {q : Nat} {a b c : SV} (k : Cel3 h q a b c) (he : Ext h h') : Cel3 h' q a b c := he.get _ _ k
theorem Cel3.read {h : Heap} {q : Nat} {a b c : SV} (k : Cel3 h q a b c) : readN h q 0 3 = some [a, b, c] := by
  unfold Cel3 at k
  simp [readN, k, cut]
section
variable {FT : FuncId → Option AFun} {HK : FuncId → Option Hook} {E : Env} {h : Heap} {K : Env → Heap → Prop} {d : Option Nat} {r : List AOp} {x y : AO}
theorem k_new3 {a b c : SV} (hw : ∀ h1, Ext h h1 → h1.length = h.length + 1 → Cel3 h1 h.length a b c → wOps FT HK r (bindE d (some (.sc (.ptr h.length 0))) E) h1 K) :
    wOps FT HK (⟨d, .new [a, b, c], none⟩ :: r) E h K :=
  op_ok (v := some (.sc (.ptr h.length 0))) (h' := h ++ [.cells [a, b, c] true 0]) rfl rfl rfl (hw _ ⟨_, rfl⟩ (by simp) (by simp [Cel3]))
theorem k_st3 {h0 : Heap} {q : Nat} {a b c u v w : SV} {p : AO} (ha : evS E p = some (.ptr q 0)) (hx : ev E x = some (.agg [a, b, c])) (hc : Cel3 h q u v w) (he : Ext h0 h) (hq : h0.length ≤ q)
    (hw : ∀ h1, Ext h0 h1 → Cel3 h1 q a b c → wOps FT HK r (bindE d none E) h1 K) : wOps FT HK (⟨d, .st 3 p x, none⟩ :: r) E h K := by
  have hc' : h[q]? = some (.cells [u, v, w] true 0) := hc
  refine op_ok (v := none) (h' := h.set q (.cells [a, b, c] true 0)) rfl rfl ?_ (hw _ (he.set hq _) ?_)
  · simp [step1, ha, hx, AV.cells, writeN, hc', splice]
  · have := hc.lt
    simp [Cel3, this]

/-! ### A row of bytes -/
def bts (n i : Nat) : List SV := List.replicate i (.int .u8 50) ++ List.replicate (n - i) (.int .u8 0)
theorem bts_len {n i : Nat} (h : i ≤ n) : (bts n i).length = n := by simp [bts]; omega
theorem bts_take (n m : Nat) (h : m ≤ n) : (bts n n).take m = u8s (List.replicate m 50) := by
  simp only [bts, Nat.sub_self, List.replicate_zero, List.append_nil, List.take_replicate, Nat.min_eq_left h, u8s, List.map_replicate]
  rfl
abbrev bk (n i : Nat) : Blk := .cells (bts n i) true ⟨1, some 5⟩
theorem bk_wr (h0 : Heap) {n i : Nat} (h : i < n) : writeN (h0 ++ [bk n i]) h0.length (0 + i * 1) [.int .u8 50] = some (h0 ++ [bk n (i + 1)]) := by
  have hl := bts_len (Nat.le_of_lt h)
  have e : n - i = (n - (i + 1)) + 1 := by omega
  have hs : splice (bts n i) (0 + i * 1) [.int .u8 50] = bts n (i + 1) := by
    have e0 : 0 + i * 1 = i := by omega
    unfold splice bts
    rw [e0, e, List.replicate_succ, List.take_left' (by simp)]
    have : (List.replicate i (SV.int .u8 50) ++ SV.int .u8 0 :: List.replicate (n - (i + 1)) (SV.int .u8 0)).drop (i + [SV.int .u8 50].length) = List.replicate (n - (i + 1)) (SV.int .u8 0) := by
      rw [List.drop_append, List.length_replicate]
      simp
    rw [this, List.replicate_succ']
  unfold writeN
  simp only [List.getElem?_concat_length, List.length_singleton, hl]
  rw [if_pos (by omega), hs]
  simp
theorem bk_rd (h0 : Heap) {n m : Nat} (h : m ≤ n) : readN (h0 ++ [bk n n]) h0.length 0 m = some (u8s (List.replicate m 50)) := by
  simp only [readN, List.getElem?_concat_length, cut, bts_len (Nat.le_refl n)]
  rw [if_pos (by omega), List.drop_zero, bts_take n m h]
theorem k_mkB {n : Nat} {N : Int} {k1 k2 : IntKind} (hx : evS E x = some (.int k1 N)) (hy : evS E y = some (.int k2 N)) (hN : N = (n : Int)) (hb : n ≤ 1000000)
    (hw : wOps FT HK r (bindE d (some (.sc (.slc h.length 0 n (some n)))) E) (h ++ [bk n 0]) K) : wOps FT HK (⟨d, .mk ⟨1, some 5⟩ 1 [.int .u8 0] x y, none⟩ :: r) E h K := by
  subst hN
  refine op_mk rfl hx hy ⟨by omega, by omega, by simp only [bigN]; omega⟩ ?_
  have e : bts n 0 = rep [.int .u8 0] n := by rw [rep1]; simp [bts]
  simp only [Int.toNat_natCast]
  rw [← e]
  exact hw
theorem k_toN {id n m : Nat} {M : Int} {cap : Option Nat} {kd : IntKind} {hi : AO} (hx : evS E x = some (.slc id 0 n cap)) (hh : evS E hi = some (.int kd M)) (hM : M = (m : Int)) (hle : m ≤ n)
    (hw : wOps FT HK r (bindE d (some (.sc (.slc id 0 m (cap.map (· - 0))))) E) h K) : wOps FT HK (⟨d, .sl1 x none (some hi), none⟩ :: r) E h K := by
  subst hM
  refine k_to hx (n := (n : Int)) rfl hh (by omega) ?_ hw
  simp only [Int.toNat_natCast, slice1]
  rw [if_pos ⟨Nat.zero_le _, hle⟩]
  simp
end
end Go.Proofs.YtooafhbjbpaacaaDoor
