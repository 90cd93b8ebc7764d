/- gauss.mates. -/
import Derived.Test.YtleoalcbgpjieaaDoorGV
namespace Go.Proofs.YtleoalcbgpjieaaDoor
open Go.Ab
set_option linter.unusedVariables false
set_option linter.unusedSimpArgs false
set_option maxRecDepth 20000
set_option maxHeartbeats 4000000
attribute [local irreducible] wOps wA wSeq wBlk wRound wOpsD

/-- Where a visit comes in, and where it goes out. -/
def inG (S : List Int) (v : Vis) : Nat := if v.2 = true then (if S.getD v.1.toNat 0 = 1 then 4 * v.1.toNat + 3 else 4 * v.1.toNat + 1) else 4 * v.1.toNat
def outG (S : List Int) (v : Vis) : Nat := if v.2 = true then (if S.getD v.1.toNat 0 = 1 then 4 * v.1.toNat + 1 else 4 * v.1.toNat + 3) else 4 * v.1.toNat + 2
theorem inG_lt {S : List Int} {v : Vis} (h0 : 0 ≤ v.1) (h1 : v.1 < S.length) : inG S v < 4 * S.length := by unfold inG; split <;> (try split) <;> omega
theorem outG_lt {S : List Int} {v : Vis} (h0 : 0 ≤ v.1) (h1 : v.1 < S.length) : outG S v < 4 * S.length := by unfold outG; split <;> (try split) <;> omega

theorem call58 (h0 : Heap) (X Sg : SV) (S : List Int) (l : Int) (v : Vis) (hS : IsInts h0 Sg S) (v0 : 0 ≤ v.1) (v1 : v.1 < S.length) (hl : S.length ≤ 1000000) :
    ∃ w h', Cal FT HKt 58 [.agg [X, Sg, .int .i64 l], .agg [.int .i64 v.1, .bool v.2]] h0 w h' ∧ Ext h0 h' ∧ w = .tup [.sc (.int .i64 (inG S v : Nat)), .sc (.int .i64 (outG S v : Nat))] := by
  refine Cal.of (F := a58) rfl rfl rfl ?_
  obtain ⟨c, o⟩ := v
  obtain ⟨k, rfl⟩ : ∃ k : Nat, c = (k : Int) := ⟨c.toNat, by simp only at v0; omega⟩
  simp only at v0 v1
  have hk : k < S.length := by omega
  cases o with
  | false =>
    have e1 : ((inG S ((k : Int), false) : Nat) : Int) = 4 * (k : Int) := by simp [inG]
    have e2 : ((outG S ((k : Int), false) : Nat) : Int) = 4 * (k : Int) + 2 := by simp [outG]
    rw [e1, e2]
    repeat' (first | refine w_seq ?_ | refine w_seqN ?_ | refine w_seqR ?_ | refine w_blk ?_ | refine w_blkR ?_ | refine w_ret ?_ | refine w_ops ?_ | ((refine i_cond ?_); refine w_condT rfl ?_) | ((refine i_nil ?_); first | refine w_end2 rfl rfl ?_ | refine w_end3 rfl rfl rfl ?_ | refine w_end4 rfl rfl rfl rfl ?_) | ((refine i_cons ?_); first | (have b1' := b1; refine k_boxC rfl ?_; intro h2 f2 c2; have b2 := b1.ext f2) | (refine k_box rfl rfl ?_; intro h1 f1 l1 b1) | refine k_fldA rfl ?_ | refine k_ldC0 rfl c2 ?_ | refine k_ldC1 rfl c2 ?_ | refine k_mv rfl ?_ | refine k_notF rfl ?_ | refine k_add rfl rfl (by omega) ?_ | refine k_mul rfl rfl (by omega) ?_))
    exact ⟨.inr rfl, f1.trans f2, rfl⟩
  | true =>
    obtain ⟨x, hx⟩ : ∃ x, S[k]? = some x := ⟨_, List.getElem?_eq_getElem hk⟩
    obtain ⟨id, off, cap, rfl, hr⟩ := IsInts.at hS hx
    have hgd : S.getD k 0 = x := by simp [List.getD, hx]
    by_cases h1 : x = 1
    · have e1 : ((inG S ((k : Int), true) : Nat) : Int) = 4 * (k : Int) + 3 := by simp [inG, hx, h1]
      have e2 : ((outG S ((k : Int), true) : Nat) : Int) = 4 * (k : Int) + 1 := by simp [outG, hx, h1]
      rw [e1, e2]
      repeat' (first | refine w_seq ?_ | refine w_seqN ?_ | refine w_seqR ?_ | refine w_blk ?_ | refine w_blkR ?_ | refine w_ret ?_ | refine w_ops ?_ | ((refine i_cond ?_); first | refine w_condT rfl ?_ | refine w_condF rfl ?_) | ((refine i_nil ?_); first | refine w_end2 rfl rfl ?_ | refine w_end3 rfl rfl rfl ?_ | refine w_end4 rfl rfl rfl rfl ?_) | ((refine i_cons ?_); first | (have b1' := b1; refine k_boxC rfl ?_; intro h2 f2 c2; have b2 := b1.ext f2; have hr2 := readN_ext (f1.trans f2) hr) | (refine k_box rfl rfl ?_; intro h1 f1 l1 b1) | refine k_fldA rfl ?_ | refine k_ldC0 rfl c2 ?_ | refine k_ldC1 rfl c2 ?_ | refine k_ldb rfl b2 rfl ?_ | refine k_idxA (esz := 1) rfl rfl (by omega) ?_ | refine k_ld rfl hr2 ?_ | refine k_mv rfl ?_ | refine k_notT rfl ?_ | refine k_add rfl rfl (by omega) ?_ | refine k_mul rfl rfl (by omega) ?_ | refine k_eqlT rfl rfl (by omega) ?_))
      exact ⟨.inr rfl, f1.trans f2, rfl⟩
    · have e1 : ((inG S ((k : Int), true) : Nat) : Int) = 4 * (k : Int) + 1 := by simp [inG, hx, h1]
      have e2 : ((outG S ((k : Int), true) : Nat) : Int) = 4 * (k : Int) + 3 := by simp [outG, hx, h1]
      rw [e1, e2]
      repeat' (first | refine w_seq ?_ | refine w_seqN ?_ | refine w_blk ?_ | refine w_blkN ?_ | refine w_skip ?_ | refine w_ret ?_ | refine w_ops ?_ | ((refine i_cond ?_); refine w_condF rfl ?_) | ((refine i_nil ?_); first | refine w_end2 rfl rfl ?_ | refine w_end3 rfl rfl rfl ?_ | refine w_end4 rfl rfl rfl rfl ?_) | ((refine i_cons ?_); first | (have b1' := b1; refine k_boxC rfl ?_; intro h2 f2 c2; have b2 := b1.ext f2; have hr2 := readN_ext (f1.trans f2) hr) | (refine k_box rfl rfl ?_; intro h1 f1 l1 b1) | refine k_fldA rfl ?_ | refine k_ldC0 rfl c2 ?_ | refine k_ldC1 rfl c2 ?_ | refine k_ldb rfl b2 rfl ?_ | refine k_idxA (esz := 1) rfl rfl (by omega) ?_ | refine k_ld rfl hr2 ?_ | refine k_mv rfl ?_ | refine k_notT rfl ?_ | refine k_add rfl rfl (by omega) ?_ | refine k_mul rfl rfl (by omega) ?_ | refine k_eqlF rfl rfl (by omega) ?_))
      exact ⟨.inr rfl, f1.trans f2, rfl⟩

section
variable {FT : FuncId → Option AFun} {HK : FuncId → Option Hook} {E : Env} {h : Heap} {K : Env → Heap → Prop} {d : Option Nat} {r : List AOp} {x y : AO} {m n : Int}
theorem k_remE {z : Int} (hz : m % n = z) (hx : evS E x = some (.int .i64 m)) (hy : evS E y = some (.int .i64 n)) (hr : 0 ≤ m ∧ 0 < n) (hw : wOps FT HK r (bindE d (some (.sc (.int .i64 z))) E) h K) : wOps FT HK (⟨d, .bin .rem x y, none⟩ :: r) E h K := by
  subst hz; exact k_rem hx hy hr hw
end
/-- The mates, as they are laid: of k visits of a component; of i components. -/
def mtC (S : List Int) (c : List Vis) : Nat → List Int → List Int
  | 0, A => A
  | k + 1, A => ((mtC S c k A).set (outG S (c.getD k (0, false))) (inG S (c.getD ((k + 1) % c.length) (0, false)) : Nat)).set (inG S (c.getD ((k + 1) % c.length) (0, false))) (outG S (c.getD k (0, false)) : Nat)
def mtG (S : List Int) (C : List (List Vis)) : Nat → List Int
  | 0 => List.replicate (4 * S.length) 0
  | i + 1 => mtC S (C.getD i []) (C.getD i []).length (mtG S C i)
theorem mtC_len (S : List Int) (c : List Vis) (A : List Int) : ∀ k, (mtC S c k A).length = A.length
  | 0 => rfl
  | k + 1 => by simp [mtC, mtC_len S c A k]
theorem mtG_len (S : List Int) (C : List (List Vis)) : ∀ i, (mtG S C i).length = 4 * S.length
  | 0 => by simp [mtG]
  | i + 1 => by rw [mtG, mtC_len, mtG_len S C i]

def I37v (h1 : Heap) (b : Nat) (t X cs : SV) (n i : Nat) (S : List Int) (c : List Vis) (A : List Int) (E : Env) (h : Heap) : Prop := ∃ k : Nat, k ≤ c.length ∧ Ext h1 h ∧ Own h1 h t (ints (mtC S c k A)) ∧
  E = [(1, some (.sc (.ptr b 0))), (3, some (.sc t)), (5, some (.sc cs)), (18, some (.sc X)), (19, some (.sc (.int .i64 (n : Nat)))), (20, some (.sc (.int .i64 (i : Nat)))), (24, some (.sc cs)), (25, some (.sc (.int .i64 (c.length : Nat)))), (26, some (.sc (.int .i64 (k : Nat))))]
def R37v (h1 : Heap) (b : Nat) (t X : SV) (n i : Nat) (S : List Int) (c : List Vis) (A : List Int) (ex : Ex) (E : Env) (h : Heap) : Prop := ex = .ex 2 ∧ Ext h1 h ∧ Own h1 h t (ints (mtC S c c.length A)) ∧ ∃ u v w x y,
  E = [(1, some (.sc (.ptr b 0))), (3, some (.sc t)), (5, u), (18, some (.sc X)), (19, some (.sc (.int .i64 (n : Nat)))), (20, some (.sc (.int .i64 (i : Nat)))), (24, v), (25, w), (26, x), (27, y)]
theorem round37v (h1 : Heap) (b : Nat) (t X0 X Sg cs : SV) (l : Int) (n i : Nat) (S : List Int) (c : List Vis) (A : List Int) (hb : Blk.At h1 b [X0, Sg, .int .i64 l]) (hS : IsInts h1 Sg S) (hsl : S.length ≤ 1000000) (hc : IsVis h1 cs c) (hcl : c.length ≤ 1000000) (hA : A.length = 4 * S.length)
    (hv : ∀ v ∈ c, 0 ≤ v.1 ∧ v.1 < S.length) (E : Env) (h : Heap) (hI : I37v h1 b t X cs n i S c A E h) :
    wA FT HKt b37L1 (E.keep [1, 3, 5, 18, 19, 20, 24, 25, 26]) h (wRound (I37v h1 b t X cs n i S c A) (cnt c.length 26) (cnt c.length 26 E h) (R37v h1 b t X n i S c A)) := by
  obtain ⟨k, hk, e, ow, rfl⟩ := hI
  by_cases hlt : k < c.length
  · obtain ⟨v, hx⟩ : ∃ v, c[k]? = some v := ⟨_, List.getElem?_eq_getElem hlt⟩
    have hm : (k + 1) % c.length < c.length := Nat.mod_lt _ (by omega)
    have hmi : ((k : Int) + 1) % (c.length : Int) = (((k + 1) % c.length : Nat) : Int) := by rw [Int.natCast_emod]; rfl
    have en0 := mtC.eq_2 S c A k
    generalize (k + 1) % c.length = q at *
    obtain ⟨w, hy⟩ : ∃ w, c[q]? = some w := ⟨_, List.getElem?_eq_getElem hm⟩
    have hv1 := hv v (List.mem_of_getElem? hx)
    have hw1 := hv w (List.mem_of_getElem? hy)
    obtain ⟨id, off, cap, rfl, hr⟩ := (hc.ext e).at hx
    obtain ⟨id', off', cap', hcs, hr2⟩ := (hc.ext e).at hy
    cases hcs
    have lc : lenS false (SV.slc id off c.length cap) = some (c.length : Int) := rfl
    have en : mtC S c (k + 1) A = ((mtC S c k A).set (outG S v) (inG S w : Nat)).set (inG S w) (outG S v : Nat) := by
      have g1 : c.getD k (0, false) = v := by simp [List.getD, hx]
      have g2 : c.getD q (0, false) = w := by simp [List.getD, hy]
      rw [en0, g1, g2]
    have hml := mtC_len S c A k
    have ho := outG_lt hv1.1 hv1.2
    have hi := inG_lt hw1.1 hw1.2
    have hvl : (ints (mtC S c k A)).length = 4 * S.length := by rw [List.length_map, hml, hA]
    have b0 := hb.ext e
    obtain ⟨id3, cap3, -, rfl, -⟩ := Own.wr e ow (i := outG S v) (by rw [hvl]; exact ho) (.int .i64 0)
    rw [hvl] at ow ⊢
    have kv := fun H (eh : Ext h1 H) => call58 H X0 Sg S l v (IsSl.ext hS eh) hv1.1 hv1.2 hsl
    have kw := fun H (eh : Ext h1 H) => call58 H X0 Sg S l w (IsSl.ext hS eh) hw1.1 hw1.2 hsl
    repeat' (first | refine w_seq ?_ | refine w_seqN ?_ | refine w_blk ?_ | refine w_skip ?_ | refine w_ops ?_ | refine w_opsD ?_ | refine d_one ?_ | refine d_nil ?_ | ((refine i_cond ?_); refine w_condT rfl ?_) | ((refine i_nil ?_); first | refine d_same ?_ | refine d_ord ?_ | refine w_end10 rfl rfl rfl rfl rfl rfl rfl rfl rfl rfl ?_ | refine w_end11 rfl rfl rfl rfl rfl rfl rfl rfl rfl rfl rfl ?_) | ((refine i_cons ?_); first | refine k_idxA (esz := 2) rfl rfl (by omega) ?_ | refine op_ldA rfl rfl hr ?_ | (refine k_newC ?_; intro h2 e2 c2) | (refine k_stC rfl rfl c2 ?_; intro h3 w3; have c3 := w3.cel; have e3 : Ext h h3 := w3.ext e2 (Nat.le_refl _); have b3 := b0.ext e3; have hr3 := readN_ext e3 hr2) | (have d4 := e4; refine k_call rfl (kw h4 (e.trans (e3.trans e4))) ?_; rintro _ h5 ⟨e5, rfl⟩) | (refine k_call rfl (kv h3 (e.trans e3)) ?_; rintro _ h4 ⟨e4, rfl⟩; have b4 := b3.ext e4; have hr4 := readN_ext e4 hr3) | refine k_ldA rfl b4 rfl ?_ | refine k_ldA rfl b3 rfl ?_ | refine k_ldC rfl c3 ?_ | refine op_ldA rfl rfl hr4 ?_ | refine k_len rfl lc ?_ | refine k_remE hmi rfl rfl (by omega) ?_ | refine k_mv rfl ?_ | refine k_add rfl rfl (by omega) ?_ | refine k_lssT rfl rfl (by omega) ?_ | refine k_ok rfl rfl ?_))
    have e05 := e.trans (e3.trans (e4.trans e5))
    obtain ⟨id4, cap4, h6, et, w6, o6, e6, f6, l6⟩ := Own.wr e05 (ow.ext (e3.trans (e4.trans e5))) (i := outG S v) (by rw [hvl]; exact ho) (.int .i64 (inG S w : Nat))
    rw [hvl] at et
    cases et
    obtain ⟨id4, cap4, h7, et, w7, o7, e7, f7, l7⟩ := Own.wr e6 o6 (i := inG S w) (by rw [List.length_set, hvl]; exact hi) (.int .i64 (outG S v : Nat))
    rw [List.length_set, hvl] at et
    cases et
    repeat' (first | refine w_seqN ?_ | refine w_blkN ?_ | refine w_ops ?_ | ((refine i_nil ?_); first | refine w_end9 rfl rfl rfl rfl rfl rfl rfl rfl rfl ?_ | refine w_end11 rfl rfl rfl rfl rfl rfl rfl rfl rfl rfl rfl ?_) | ((refine i_cons ?_); first | refine k_idxA (esz := 1) rfl rfl (by omega) ?_ | refine k_st rfl rfl w6 ?_ | refine k_st rfl rfl w7 ?_ | refine k_mv rfl ?_ | refine k_add rfl rfl (by omega) ?_))
    have eni : ints (mtC S c (k + 1) A) = ((ints (mtC S c k A)).set (outG S v) (.int .i64 (inG S w : Nat))).set (inG S w) (.int .i64 (outG S v : Nat)) := by
      rw [en]; simp [ints, List.map_set]
    exact w_roundN ⟨k + 1, by omega, e7, by rw [eni]; exact o7, rfl⟩ (by simp [cnt, Env.get]; omega)
  · have hke : k = c.length := by omega
    subst hke
    repeat' (first | refine w_seq ?_ | refine w_seqN ?_ | refine w_seqX ?_ | refine w_exit ?_ | refine w_ops ?_ | ((refine i_cond ?_); refine w_condF rfl ?_) | ((refine i_nil ?_); refine w_end10 rfl rfl rfl rfl rfl rfl rfl rfl rfl rfl ?_) | ((refine i_cons ?_); refine k_lssF rfl rfl (by omega) ?_))
    exact w_roundX ⟨rfl, e, ow, _, _, _, _, _, rfl⟩
def I37c (h1 : Heap) (b : Nat) (t X : SV) (S : List Int) (C : List (List Vis)) (E : Env) (h : Heap) : Prop := ∃ i : Nat, i ≤ C.length ∧ Ext h1 h ∧ Own h1 h t (ints (mtG S C i)) ∧
  E = [(1, some (.sc (.ptr b 0))), (3, some (.sc t)), (18, some (.sc X)), (19, some (.sc (.int .i64 (C.length : Nat)))), (20, some (.sc (.int .i64 (i : Nat))))]
def R37c (h1 : Heap) (t : SV) (S : List Int) (C : List (List Vis)) (ex : Ex) (E : Env) (h : Heap) : Prop := ex = .ex 0 ∧ Ext h1 h ∧ Own h1 h t (ints (mtG S C C.length)) ∧ ∃ u v w x y,
  E = [(1, u), (3, some (.sc t)), (18, v), (19, w), (20, x), (21, y)]
theorem round37c (h1 : Heap) (b : Nat) (t X Sg : SV) (g : GC) (hb : Blk.At h1 b [X, Sg, .int .i64 g.L]) (hc : IsCode h1 X Sg g) (hf : GFits g) (hv : ∀ v ∈ g.C.flatten, 0 ≤ v.1 ∧ v.1 < g.S.length) (E : Env) (h : Heap) (hI : I37c h1 b t X g.S g.C E h) :
    wA FT HKt b37L0 (E.keep [1, 3, 18, 19, 20]) h (wRound (I37c h1 b t X g.S g.C) (cnt g.C.length 20) (cnt g.C.length 20 E h) (R37c h1 t g.S g.C)) := by
  obtain ⟨i, hi, e, ow, rfl⟩ := hI
  have hcl := hf.c
  by_cases hlt : i < g.C.length
  · obtain ⟨c, hx⟩ : ∃ c, g.C[i]? = some c := ⟨_, List.getElem?_eq_getElem hlt⟩
    obtain ⟨id, off, cap, t1, rfl, hr, hvis⟩ := hc.x.at hx
    have hr' := readN_ext e hr
    have hvis' := hvis.ext e
    have lt := hvis.len
    have hvl : c.length ≤ 1000000 := by
      have h1 := flat_snoc hx
      have h2 := flat_le (C := g.C) (i + 1)
      rw [h1, List.length_append] at h2
      have := hf.v
      omega
    have en : mtG g.S g.C (i + 1) = mtC g.S c c.length (mtG g.S g.C i) := by
      have : g.C.getD i [] = c := by simp [List.getD, hx]
      rw [mtG, this]
    repeat' (first | refine w_seq ?_ | refine w_seqN ?_ | refine w_blk ?_ | refine w_skip ?_ | refine w_ops ?_ | ((refine i_cond ?_); refine w_condT rfl ?_) | ((refine i_nil ?_); first | refine w_end6 rfl rfl rfl rfl rfl rfl ?_ | refine w_end9 rfl rfl rfl rfl rfl rfl rfl rfl rfl ?_) | ((refine i_cons ?_); first | refine k_idxA (esz := 1) rfl rfl (by omega) ?_ | refine k_ld rfl hr' ?_ | refine k_len rfl lt ?_ | refine k_mv rfl ?_ | refine k_lssT rfl rfl (by omega) ?_))
    refine w_loop (I37v h1 b t (.slc id off g.C.length cap) t1 g.C.length i g.S c (mtG g.S g.C i)) (cnt c.length 26) (R37v h1 b t (.slc id off g.C.length cap) g.C.length i g.S c (mtG g.S g.C i)) ⟨0, Nat.zero_le _, e, ow, rfl⟩ (round37v h1 b t _ _ Sg t1 g.L _ i g.S c _ hb hc.s hf.s hvis hvl (mtG_len _ _ _) (fun v hv1 => hv v (List.mem_flatten.2 ⟨c, List.mem_of_getElem? hx, hv1⟩))) ?_
    rintro ex E' h' ⟨rfl, e', o', u, v, w, x, y, rfl⟩
    repeat' (first | refine w_seqN ?_ | refine w_blkN ?_ | refine w_blkX ?_ | refine w_ops ?_ | ((refine i_nil ?_); refine w_end5 rfl rfl rfl rfl rfl ?_) | ((refine i_cons ?_); first | refine k_mv rfl ?_ | refine k_add rfl rfl (by omega) ?_))
    exact w_roundN ⟨i + 1, by omega, e', by rw [en]; exact o', rfl⟩ (by simp [cnt, Env.get]; omega)
  · have hie : i = g.C.length := by omega
    subst hie
    repeat' (first | refine w_seq ?_ | refine w_seqN ?_ | refine w_seqX ?_ | refine w_exit ?_ | refine w_ops ?_ | ((refine i_cond ?_); refine w_condF rfl ?_) | ((refine i_nil ?_); refine w_end6 rfl rfl rfl rfl rfl rfl ?_) | ((refine i_cons ?_); refine k_lssF rfl rfl (by omega) ?_))
    exact w_roundX ⟨rfl, e, ow, _, _, _, _, _, rfl⟩
theorem call37 (h0 : Heap) (X Sg : SV) (g : GC) (hc : IsCode h0 X Sg g) (hf : GFits g) (hv : ∀ v ∈ g.C.flatten, 0 ≤ v.1 ∧ v.1 < g.S.length) :
    ∃ v h', Cal FT HKt 37 [.agg [X, Sg, .int .i64 g.L]] h0 v h' ∧ Ext h0 h' ∧ ∃ t, v = .sc t ∧ Own h0 h' t (ints (mtG g.S g.C g.C.length)) := by
  refine Cal.of (F := a37) rfl rfl rfl ?_
  have hsl := hf.s
  have lS := IsSl.len hc.s
  have lX := hc.x.len
  repeat' (first | refine w_seq ?_ | refine w_seqN ?_ | refine w_blk ?_ | refine w_ops ?_ | ((refine i_nil ?_); first | refine w_end1 rfl ?_ | refine w_end2 rfl rfl ?_ | refine w_end5 rfl rfl rfl rfl rfl ?_) | ((refine i_cons ?_); first | (refine k_box rfl rfl ?_; intro h1 e1 l1 b1) | refine k_fldA rfl ?_ | refine k_ldb rfl b1 rfl ?_ | refine k_ldb rfl b2 rfl ?_ | refine k_len rfl lS ?_ | refine k_len rfl lX ?_ | (refine k_mkO e1 rfl rfl (by simp only [bigN]; omega) ?_; intro t h2 o2 e2 e02 l2; have b2 := b1.ext e2) | refine k_mv rfl ?_ | refine k_mul rfl rfl (by omega) ?_))
  have hz : Own h1 h2 t (ints (mtG g.S g.C 0)) := by
    have : (4 * (g.S.length : Int)).toNat = 4 * g.S.length := by omega
    rw [this] at o2
    simpa [ints, mtG] using o2
  refine w_loop (I37c h1 h0.length t X g.S g.C) (cnt g.C.length 20) (R37c h1 t g.S g.C) ⟨0, Nat.zero_le _, e2, hz, rfl⟩ (round37c h1 _ t X Sg g b1 (hc.ext e1) hf hv) ?_
  rintro ex E' h' ⟨rfl, e', o', u, v, w, x, y, rfl⟩
  repeat' (first | refine w_seq ?_ | refine w_seqN ?_ | refine w_blkX ?_ | refine w_ret ?_ | refine w_ops ?_ | ((refine i_nil ?_); refine w_end1 rfl ?_) | ((refine i_cons ?_); refine k_mv rfl ?_))
  exact ⟨.inr rfl, e1.trans e', t, rfl, o'.weaken e1.len⟩
end Go.Proofs.YtleoalcbgpjieaaDoor
