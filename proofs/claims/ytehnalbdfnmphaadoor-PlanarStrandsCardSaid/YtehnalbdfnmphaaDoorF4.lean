/- planar.Format. -/
import Derived.Test.YtehnalbdfnmphaaDoorF3
namespace Go.Proofs.YtehnalbdfnmphaaDoor
open Go.Ab
set_option linter.unusedVariables false
set_option linter.unusedSimpArgs false
set_option maxRecDepth 20000
set_option maxHeartbeats 4000000
attribute [local irreducible] wOps wA wSeq wBlk wRound wRoundI wOpsD

/-! ### The labels -/
def I12k (h1 : Heap) (p u o f : SV) (ms : List Int) (fs : List SV) (C : List (List Nat)) (i : Nat) (L : List Nat) (E : Env) (h : Heap) : Prop := ∃ k : Nat, k ≤ L.length ∧ StL h1 ms C.flatten fs C h u o ((C.take i).flatten.length + k) ∧
  E = [(1, some (.sc p)), (4, some (.sc u)), (5, some (.sc (.int .i64 ((C.take i).flatten.length + k + 1 : Nat)))), (22, some (.sc o)), (23, some (.sc (.int .i64 (C.length : Nat)))), (24, some (.sc (.int .i64 (i : Nat)))), (28, some (.sc f)), (29, some (.sc (.int .i64 (L.length : Nat)))), (30, some (.sc (.int .i64 (k : Nat))))]
def R12k (h1 : Heap) (p u o : SV) (ms : List Int) (fs : List SV) (C : List (List Nat)) (i : Nat) (L : List Nat) (ex : Ex) (E : Env) (h : Heap) : Prop := ex = .ex 2 ∧ StL h1 ms C.flatten fs C h u o ((C.take i).flatten.length + L.length) ∧ ∃ x y z w,
  E = [(1, some (.sc p)), (4, some (.sc u)), (5, some (.sc (.int .i64 ((C.take i).flatten.length + L.length + 1 : Nat)))), (22, some (.sc o)), (23, some (.sc (.int .i64 (C.length : Nat)))), (24, some (.sc (.int .i64 (i : Nat)))), (28, x), (29, y), (30, z), (31, w)]
theorem round12k (h1 : Heap) (b : Nat) (s m u o f : SV) (l : Int) (hbx : Blk.At h1 b [s, m, .int .i64 l]) (xs ms : List Int) (hs : IsInts h1 m ms) (hF : Front xs ms l) (fs : List SV) (C : List (List Nat)) (hC : ∀ L ∈ C, L.length ≤ 256 ∧ ∀ g ∈ L, g < ms.length) (hCl : C.flatten.length ≤ 65536) (i : Nat) (L : List Nat) (hi : C[i]? = some L) (hf : fs[i]? = some f) (hil : i < 256) (E : Env) (h : Heap) (hI : I12k h1 (.ptr b 0) u o f ms fs C i L E h) :
    wA FT HKt b12L1 (E.keep [1, 4, 5, 22, 23, 24, 28, 29, 30]) h (wRound (I12k h1 (.ptr b 0) u o f ms fs C i L) (cntV L.length 30) (cntV L.length 30 E h) (R12k h1 (.ptr b 0) u o ms fs C i L)) := by
  obtain ⟨k, hk, st, rfl⟩ := hI
  have hLm := hC L (List.mem_of_getElem? hi)
  obtain ⟨f', hf1, hf2⟩ := f2_at st.sf hi
  rw [hf] at hf1
  obtain rfl := Option.some.inj hf1
  by_cases hlt : k < L.length
  · obtain ⟨x, hx⟩ : ∃ x, L[k]? = some x := ⟨_, List.getElem?_eq_getElem hlt⟩
    have hxm := hLm.2 x (List.mem_of_getElem? hx)
    have hgl := flat_at hi hx
    have hgb := (List.getElem?_eq_some_iff.1 hgl).1
    have hmx := hF.fits.mate x hxm
    obtain ⟨t, hg1, hg2⟩ := hF.mates.get _ hxm
    have htN : mateN ms x = t := by unfold mateN; rw [getD_at hg1]; simp
    obtain ⟨idu, capu, h2, h3, rfl, w1, x1, w2, st2⟩ := st.step hgl hxm hmx
    rw [htN] at w2
    obtain ⟨idf, offf, capf, rfl, hrf⟩ := hf2.1.at hx
    have hb2 := hbx.ext x1
    obtain ⟨idm, offm, capm, rfl, hrm⟩ := IsInts.at (IsSl.ext hs x1) hg1
    have w1' : ∀ {j : Int}, j = ((x : Nat) : Int) → writeN h idu (0 + j.toNat * 1) [.int .i64 ((C.take i).flatten.length + k + 1 : Nat)] = some h2 := fun hj => by subst hj; rw [Int.toNat_natCast]; exact w1
    have w2' : ∀ {j : Int}, j = ((t : Nat) : Int) → writeN h2 idu (0 + j.toNat * 1) [.int .i64 ((C.take i).flatten.length + k + 1 : Nat)] = some h3 := fun hj => by subst hj; rw [Int.toNat_natCast]; exact w2
    repeat' (first | refine w_seq ?_ | refine w_seqN ?_ | refine w_blk ?_ | refine w_blkN ?_ | refine w_skip ?_ | refine w_ops ?_ | ((refine i_cond ?_); refine w_condT rfl ?_) | ((refine i_nil ?_); first | refine w_end9 rfl rfl rfl rfl rfl rfl rfl rfl rfl ?_ | refine w_end10 rfl rfl rfl rfl rfl rfl rfl rfl rfl rfl ?_) | ((refine i_cons ?_); first | refine k_idxA rfl rfl (by omega) ?_ | refine k_ld rfl hrf ?_ | refine k_fldA rfl ?_ | refine k_ldb rfl hb2 rfl ?_ | refine k_ld rfl hrm ?_ | refine k_st rfl rfl (w1' rfl) ?_ | refine k_st rfl rfl (w2' rfl) ?_ | refine k_mv rfl ?_ | refine k_add rfl rfl (by omega) ?_ | refine k_lssT rfl rfl (by omega) ?_))
    exact w_roundN ⟨k + 1, by omega, st2, rfl⟩ (by simp [cntV, Env.get]; omega)
  · have : k = L.length := by omega
    subst this
    repeat' (first | refine w_seq ?_ | refine w_seqN ?_ | refine w_seqX ?_ | refine w_exit ?_ | refine w_ops ?_ | ((refine i_cond ?_); refine w_condF rfl ?_) | ((refine i_nil ?_); refine w_end10 rfl rfl rfl rfl rfl rfl rfl rfl rfl rfl ?_) | ((refine i_cons ?_); refine k_lssF rfl rfl (by omega) ?_))
    exact w_roundX ⟨rfl, st, _, _, _, _, rfl⟩

def I12i (h1 : Heap) (p u o : SV) (ms : List Int) (fs : List SV) (C : List (List Nat)) (E : Env) (h : Heap) : Prop := ∃ i : Nat, i ≤ C.length ∧ StL h1 ms C.flatten fs C h u o (C.take i).flatten.length ∧
  E.keep [1, 4, 5, 22, 23, 24] = [(1, some (.sc p)), (4, some (.sc u)), (5, some (.sc (.int .i64 ((C.take i).flatten.length + 1 : Nat)))), (22, some (.sc o)), (23, some (.sc (.int .i64 (C.length : Nat)))), (24, some (.sc (.int .i64 (i : Nat))))]
def R12i (h1 : Heap) (p u o : SV) (ms : List Int) (fs : List SV) (C : List (List Nat)) (ex : Ex) (E : Env) (h : Heap) : Prop := ex = .ex 0 ∧ StL h1 ms C.flatten fs C h u o C.flatten.length ∧ ∃ b c d e f,
  E = [(1, some (.sc p)), (4, some (.sc u)), (5, b), (22, c), (23, d), (24, e), (25, f)]
theorem round12i (h1 : Heap) (b : Nat) (s m u o : SV) (l : Int) (hbx : Blk.At h1 b [s, m, .int .i64 l]) (xs ms : List Int) (hs : IsInts h1 m ms) (hF : Front xs ms l) (fs : List SV) (C : List (List Nat)) (hC : ∀ L ∈ C, L.length ≤ 256 ∧ ∀ g ∈ L, g < ms.length) (hCl : C.flatten.length ≤ 65536) (hCn : C.length ≤ 256) (E : Env) (h : Heap) (hI : I12i h1 (.ptr b 0) u o ms fs C E h) :
    wA FT HKt b12L0 (E.keep [1, 4, 5, 22, 23, 24]) h (wRound (I12i h1 (.ptr b 0) u o ms fs C) (cntV C.length 24) (cntV C.length 24 E h) (R12i h1 (.ptr b 0) u o ms fs C)) := by
  obtain ⟨i, hi, st, hE⟩ := hI
  have hcv : cntV C.length 24 E h = C.length - i := by
    have : E.get 24 = some (.sc (.int .i64 (i : Nat))) := by
      have h6 := congrArg (fun E => Env.get E 24) hE
      simpa [Env.keep, Env.get] using h6
    simp [cntV, this]
  rw [hE, hcv]
  have hfl : fs.length = C.length := f2_length st.sf
  by_cases hlt : i < C.length
  · obtain ⟨L, hL⟩ : ∃ L, C[i]? = some L := ⟨_, List.getElem?_eq_getElem hlt⟩
    obtain ⟨f, hf1, hf2⟩ := f2_at st.sf hL
    obtain ⟨id, off, cap, eo, hro⟩ := IsSl.at st.so hf1
    have hro' : ∀ {j : Int}, j = ((i : Nat) : Int) → readN h id (off + j.toNat * 1) 1 = some [f] := fun hj => by subst hj; rw [Int.toNat_natCast]; exact hro
    have hlf : lenS false f = some (L.length : Int) := IsSl.len hf2.1
    subst eo
    repeat' (first | refine w_seq ?_ | refine w_seqN ?_ | refine w_blk ?_ | refine w_skip ?_ | refine w_ops ?_ | ((refine i_cond ?_); refine w_condT rfl ?_) | ((refine i_nil ?_); first | refine w_end7 rfl rfl rfl rfl rfl rfl rfl ?_ | refine w_end9 rfl rfl rfl rfl rfl rfl rfl rfl rfl ?_) | ((refine i_cons ?_); first | refine k_idxA rfl rfl (by omega) ?_ | refine k_ld rfl (hro' rfl) ?_ | refine k_len rfl hlf ?_ | refine k_mv rfl ?_ | refine k_lssT rfl rfl (by omega) ?_))
    refine w_loop (I12k h1 (.ptr b 0) u _ f ms fs C i L) (cntV L.length 30) (R12k h1 (.ptr b 0) u _ ms fs C i L) ⟨0, by omega, st, rfl⟩ (round12k h1 b s m u _ f l hbx xs ms hs hF fs C hC hCl i L hL hf1 (by omega)) ?_
    rintro ex E' h' ⟨rfl, st2, x, y, z, w, rfl⟩
    rw [← flat_take hL] at st2
    repeat' (first | refine w_seqN ?_ | refine w_blkN ?_ | refine w_blkX ?_ | refine w_ops ?_ | ((refine i_nil ?_); refine w_end6 rfl rfl rfl rfl rfl rfl ?_) | ((refine i_cons ?_); first | refine k_mv rfl ?_ | refine k_add rfl rfl (by omega) ?_))
    exact w_roundN ⟨i + 1, by omega, st2, by rw [flat_take hL]; rfl⟩ (by simp [cntV, Env.get]; omega)
  · have : i = C.length := by omega
    subst this
    rw [List.take_of_length_le (Nat.le_refl _)] at st ⊢
    repeat' (first | refine w_seq ?_ | refine w_seqN ?_ | refine w_seqX ?_ | refine w_exit ?_ | refine w_ops ?_ | ((refine i_cond ?_); refine w_condF rfl ?_) | ((refine i_nil ?_); refine w_end7 rfl rfl rfl rfl rfl rfl rfl ?_) | ((refine i_cons ?_); refine k_lssF rfl rfl (by omega) ?_))
    exact w_roundX ⟨rfl, st, _, _, _, _, _, rfl⟩

/-! ### The rows -/
def I12r (hB : Heap) (B : Nat) (p u s : SV) (xs lb : List Int) (c : Nat) (E : Env) (h : Heap) : Prop := ∃ k : Nat, k ≤ 4 ∧ BL hB h B (txtK xs lb c ++ rowK xs lb c k) ∧
  E = [(1, some (.sc p)), (4, some (.sc u)), (10, some (.sc (.ptr B 0))), (11, some (.sc (.int .i64 (c : Nat)))), (51, some (.sc s)), (52, some (.sc (.int .i64 (xs.length : Nat)))), (53, some (.sc (.int .i64 (c : Nat)))), (62, some (.sc (.int .i64 (k : Nat))))]
def R12r (hB : Heap) (B : Nat) (p u s : SV) (xs lb : List Int) (c : Nat) (ex : Ex) (E : Env) (h : Heap) : Prop := ex = .ex 6 ∧ BL hB h B (txtK xs lb c ++ rowK xs lb c 4) ∧ ∃ x y z,
  E = [(1, some (.sc p)), (4, some (.sc u)), (10, some (.sc (.ptr B 0))), (11, x), (51, some (.sc s)), (52, some (.sc (.int .i64 (xs.length : Nat)))), (53, some (.sc (.int .i64 (c : Nat)))), (62, y), (63, z)]
theorem BL.e {h0 h : Heap} {B : Nat} {bs : List UInt8} (hb : BL h0 h B bs) : Ext h0 h := Bld.ext hb
theorem round12r (hB : Heap) (B : Nat) (p u s : SV) (xs lb : List Int) (hu : IsInts hB u lb) (hm : Mod lb) (c : Nat) (hc : c < 64) (h4 : 4 * c + 4 ≤ lb.length) (hl : lb.length ≤ 256) (E : Env) (h : Heap) (hI : I12r hB B p u s xs lb c E h) :
    wA FT HKt b12L3 (E.keep [1, 4, 10, 11, 51, 52, 53, 62]) h (wRound (I12r hB B p u s xs lb c) (cntV 4 62) (cntV 4 62 E h) (R12r hB B p u s xs lb c)) := by
  obtain ⟨k, hk, hb, rfl⟩ := hI
  by_cases hlt : k < 4
  · obtain ⟨x, hx⟩ : ∃ x, lb[4 * c + k]? = some x := ⟨_, List.getElem?_eq_getElem (by omega)⟩
    have hgd : lb.getD (4 * c + k) 0 = x := by simp [List.getD, hx]
    have hxm := hm.get (4 * c + k)
    rw [hgd] at hxm
    have l1 := txtK_len (xs := xs) hm c
    have l2 := rowK_len (xs := xs) hm c k
    have l3 := itoa_len hxm
    have hs : txtK xs lb c ++ rowK xs lb c (k + 1) = txtK xs lb c ++ rowK xs lb c k ++ [32] ++ Lib.itoa x := by rw [rowK, hgd]; simp
    have k1 := call31 hB h B _ 32 hb (by rw [List.length_append]; omega)
    obtain ⟨id, off, cap, eu, hr0⟩ := IsInts.at hu hx
    subst eu
    repeat' (first | refine w_seq ?_ | refine w_seqN ?_ | refine w_blk ?_ | refine w_blkN ?_ | refine w_skip ?_ | refine w_ops ?_ | ((refine i_cond ?_); refine w_condT rfl ?_) | ((refine i_nil ?_); first | refine w_end8 rfl rfl rfl rfl rfl rfl rfl rfl ?_ | refine w_end9 rfl rfl rfl rfl rfl rfl rfl rfl rfl ?_) | ((refine i_cons ?_); first | (refine k_call rfl k1 ?_; rintro v h2 ⟨rfl, hb2⟩; have hr := readN_e (BL.e hb2) hr0; have hr' : ∀ {j : Int}, j = ((4 * c + k : Nat) : Int) → readN h2 id (off + j.toNat * 1) 1 = some [.int .i64 x] := fun hj => by subst hj; rw [Int.toNat_natCast]; exact hr) | refine k_idxA rfl rfl (by omega) ?_ | refine k_ld rfl (hr' (by omega)) ?_ | (refine k_call rfl (itoa_call x (by omega)) ?_; rintro v h3 ⟨rfl, rfl⟩; have k2 := call32 hB h3 B _ (Lib.itoa x) hb2 (by simp only [List.length_append, List.length_cons, List.length_nil]; omega) (by omega)) | (refine k_call rfl k2 ?_; rintro v h4 hb4) | refine k_mv rfl ?_ | refine k_add rfl rfl (by omega) ?_ | refine k_mul rfl rfl (by omega) ?_ | refine k_lssT rfl rfl (by omega) ?_))
    exact w_roundN ⟨k + 1, by omega, by rw [hs]; exact hb4, rfl⟩ (by simp [cntV, Env.get]; omega)
  · have : k = 4 := by omega
    subst this
    repeat' (first | refine w_seq ?_ | refine w_seqN ?_ | refine w_seqX ?_ | refine w_exit ?_ | refine w_ops ?_ | ((refine i_cond ?_); refine w_condF rfl ?_) | ((refine i_nil ?_); refine w_end9 rfl rfl rfl rfl rfl rfl rfl rfl rfl ?_) | ((refine i_cons ?_); refine k_lssF rfl rfl (by omega) ?_))
    exact w_roundX ⟨rfl, hb, _, _, _, rfl⟩

def I12c' (hB : Heap) (B : Nat) (p u s : SV) (xs lb : List Int) (E : Env) (h : Heap) : Prop := ∃ c : Nat, c ≤ xs.length ∧ BL hB h B (txtK xs lb c) ∧
  E = [(1, some (.sc p)), (4, some (.sc u)), (10, some (.sc (.ptr B 0))), (51, some (.sc s)), (52, some (.sc (.int .i64 (xs.length : Nat)))), (53, some (.sc (.int .i64 (c : Nat))))]
def R12c' (hB : Heap) (B : Nat) (p : SV) (xs lb : List Int) (ex : Ex) (E : Env) (h : Heap) : Prop := ex = .ex 4 ∧ BL hB h B (txtK xs lb xs.length) ∧ ∃ a x y z w,
  E = [(1, some (.sc p)), (4, a), (10, some (.sc (.ptr B 0))), (51, x), (52, y), (53, z), (54, w)]
theorem round12c' (hB : Heap) (B : Nat) (p u s : SV) (xs lb : List Int) (hx : IsInts hB s xs) (hu : IsInts hB u lb) (hm : Mod lb) (hn : xs.length ≤ 64) (h4 : lb.length = 4 * xs.length) (E : Env) (h : Heap) (hI : I12c' hB B p u s xs lb E h) :
    wA FT HKt b12L2 (E.keep [1, 4, 10, 51, 52, 53]) h (wRound (I12c' hB B p u s xs lb) (cntV xs.length 53) (cntV xs.length 53 E h) (R12c' hB B p xs lb)) := by
  obtain ⟨c, hc, hb, rfl⟩ := hI
  by_cases hlt : c < xs.length
  · obtain ⟨x, hxx⟩ : ∃ x, xs[c]? = some x := ⟨_, List.getElem?_eq_getElem hlt⟩
    have hgd := getD_at hxx
    obtain ⟨id, off, cap, rfl, hr⟩ := IsInts.at (IsSl.ext hx (BL.e hb)) hxx
    have l1 := txtK_len (xs := xs) hm c
    have l2 := rowK_len (xs := xs) hm c 4
    have hs : txtK xs lb (c + 1) = txtK xs lb c ++ rowK xs lb c 4 ++ [10] := by rw [txtK]; simp
    have fin : ∀ h2, BL hB h2 B (txtK xs lb c ++ rowK xs lb c 4) → ∃ v h', Cal FT HKt 31 [.sc (.ptr B 0), .sc (.int .u8 10)] h2 v h' ∧ v = .sc .nilI ∧ BL hB h' B (txtK xs lb (c + 1)) := fun h2 hb2 => by
      rw [hs]; exact call31 hB h2 B _ 10 hb2 (by rw [List.length_append]; omega)
    by_cases h1x : x = 1
    · have e0 : txtK xs lb c ++ rowK xs lb c 0 = txtK xs lb c ++ [43] := by rw [rowK, hgd, h1x]; rfl
      have k1 := call31 hB h B _ 43 hb (by omega)
      rw [← e0] at k1
      repeat' (first | refine w_seq ?_ | refine w_seqN ?_ | refine w_blk ?_ | refine w_skip ?_ | refine w_ops ?_ | ((refine i_cond ?_); refine w_condT rfl ?_) | ((refine i_nil ?_); first | refine w_end7 rfl rfl rfl rfl rfl rfl rfl ?_ | refine w_end8 rfl rfl rfl rfl rfl rfl rfl rfl ?_) | ((refine i_cons ?_); first | refine k_idxA rfl rfl (by omega) ?_ | refine k_ld rfl hr ?_ | (refine k_call rfl k1 ?_; rintro v h2 ⟨rfl, hb2⟩) | refine k_mv rfl ?_ | refine k_lssT rfl rfl (by omega) ?_ | refine k_eqlT rfl rfl (by omega) ?_))
      refine w_loop (I12r hB B p u _ xs lb c) (cntV 4 62) (R12r hB B p u _ xs lb c) ⟨0, by omega, hb2, rfl⟩ (round12r hB B p u _ xs lb hu hm c (by omega) (by omega) (by omega)) ?_
      rintro ex E' h3 ⟨rfl, hb3, x3, y3, z3, rfl⟩
      repeat' (first | refine w_seqN ?_ | refine w_blkN ?_ | refine w_blkX ?_ | refine w_ops ?_ | ((refine i_nil ?_); refine w_end6 rfl rfl rfl rfl rfl rfl ?_) | ((refine i_cons ?_); first | (refine k_call rfl (fin _ hb3) ?_; rintro v h4 ⟨rfl, hb4⟩) | refine k_mv rfl ?_ | refine k_add rfl rfl (by omega) ?_))
      exact w_roundN ⟨c + 1, by omega, hb4, rfl⟩ (by simp [cntV, Env.get]; omega)
    · have e0 : txtK xs lb c ++ rowK xs lb c 0 = txtK xs lb c ++ [45] := by rw [rowK, hgd, sgT, if_neg h1x]
      have k1 := call31 hB h B _ 45 hb (by omega)
      rw [← e0] at k1
      repeat' (first | refine w_seq ?_ | refine w_seqN ?_ | refine w_blk ?_ | refine w_skip ?_ | refine w_ops ?_ | ((refine i_cond ?_); first | refine w_condT rfl ?_ | refine w_condF rfl ?_) | ((refine i_nil ?_); first | refine w_end7 rfl rfl rfl rfl rfl rfl rfl ?_ | refine w_end8 rfl rfl rfl rfl rfl rfl rfl rfl ?_) | ((refine i_cons ?_); first | refine k_idxA rfl rfl (by omega) ?_ | refine k_ld rfl hr ?_ | (refine k_call rfl k1 ?_; rintro v h2 ⟨rfl, hb2⟩) | refine k_mv rfl ?_ | refine k_lssT rfl rfl (by omega) ?_ | refine k_eqlF rfl rfl (by omega) ?_))
      refine w_loop (I12r hB B p u _ xs lb c) (cntV 4 62) (R12r hB B p u _ xs lb c) ⟨0, by omega, hb2, rfl⟩ (round12r hB B p u _ xs lb hu hm c (by omega) (by omega) (by omega)) ?_
      rintro ex E' h3 ⟨rfl, hb3, x3, y3, z3, rfl⟩
      repeat' (first | refine w_seqN ?_ | refine w_blkN ?_ | refine w_blkX ?_ | refine w_ops ?_ | ((refine i_nil ?_); refine w_end6 rfl rfl rfl rfl rfl rfl ?_) | ((refine i_cons ?_); first | (refine k_call rfl (fin _ hb3) ?_; rintro v h4 ⟨rfl, hb4⟩) | refine k_mv rfl ?_ | refine k_add rfl rfl (by omega) ?_))
      exact w_roundN ⟨c + 1, by omega, hb4, rfl⟩ (by simp [cntV, Env.get]; omega)
  · have : c = xs.length := by omega
    subst this
    repeat' (first | refine w_seq ?_ | refine w_seqN ?_ | refine w_seqX ?_ | refine w_exit ?_ | refine w_ops ?_ | ((refine i_cond ?_); refine w_condF rfl ?_) | ((refine i_nil ?_); refine w_end7 rfl rfl rfl rfl rfl rfl rfl ?_) | ((refine i_cons ?_); refine k_lssF rfl rfl (by omega) ?_))
    exact w_roundX ⟨rfl, hb, _, _, _, _, _, rfl⟩

/-- What Format answers. -/
def FmtR (xs ms : List Int) (l : Int) (h0 : Heap) (v : AV) (h' : Heap) : Prop := Ext h0 h' ∧ ((PV xs ms l ∧ v = .tup [.sc (tb (txt xs (labs xs ms) l)), .sc (.int .i64 0)]) ∨ (¬ PV xs ms l ∧ v = .tup [.sc (tb []), .sc (.int .i64 1)]))
theorem call12 (h0 : Heap) (s m : SV) (l : Int) (xs ms : List Int) (hx : IsInts h0 s xs) (hs : IsInts h0 m ms) : ∃ v h', Cal FT HKt 12 [.agg [s, m, .int .i64 l]] h0 v h' ∧ FmtR xs ms l h0 v h' := by
  refine Cal.of (F := a12) rfl rfl rfl ?_
  have k1 := fun h1 (e1 : Ext h0 h1) => call20 (HK := HKt) rfl rfl rfl rfl rfl h1 s m l xs ms (IsSl.ext hx e1) (IsSl.ext hs e1)
  by_cases hV : PV xs ms l
  · have hF := hV.1
    have hn := hF.n64
    have h4 := hF.four
    have hl0 := hF.l0
    have hl1 := hF.l64
    have hml := hF.mates.len
    have hmo := labs_mod hF
    have hll : (labs xs ms).length = ms.length := lbK_len _ _ _
    have hxl : lenS false s = some (xs.length : Int) := IsSl.len hx
    have hmL : lenS false m = some (ms.length : Int) := IsSl.len hs
    have hsz := strs_len hF
    have k2 := fun h1 (e1 : Ext h0 h1) => call25 (HK := HKt) rfl rfl rfl rfl rfl rfl rfl rfl rfl rfl rfl h1 s m l xs ms (IsSl.ext hx e1) (IsSl.ext hs e1) hV
    repeat' (first | refine w_seq ?_ | refine w_seqN ?_ | refine w_skip ?_ | refine w_ops ?_ | ((refine i_cond ?_); refine w_condF rfl ?_) | ((refine i_nil ?_); first | refine w_end1 rfl ?_ | refine w_end2 rfl rfl ?_ | refine w_end3 rfl rfl rfl ?_) | ((refine i_cons ?_); first | (refine k_box rfl rfl ?_; intro h1 e1 l1 b1) | refine k_ldA rfl b1 rfl ?_ | (refine k_call rfl (k1 h1 e1) ?_; rintro v h2 ⟨e2, r, rfl, hr⟩; obtain rfl := hr.2 hV; have b2 := b1.ext e2) | refine k_fldA rfl ?_ | refine k_ldb rfl b2 rfl ?_ | refine k_len rfl hmL ?_ | (refine k_mkO (Ext.refl h2) rfl rfl (by simp only [bigN]; omega) ?_; intro u h3 o3 e3 x3 l3; have b3 := b2.ext e3) | refine k_ldA rfl b3 rfl ?_ | (refine k_call rfl (k2 h3 ((e1.trans e2).trans e3)) ?_; rintro v h5 ⟨e5, o, rfl, ho⟩) | refine k_mv rfl ?_ | refine k_notT rfl ?_))
    obtain ⟨fs, of, hff⟩ := ho
    have hol : lenS false o = some ((strs xs ms).length : Int) := by rw [IsSl.len of.sl, f2_length hff]
    repeat' (first | refine w_seqN ?_ | refine w_blk ?_ | ((refine i_nil ?_); refine w_end6 rfl rfl rfl rfl rfl rfl ?_) | ((refine i_cons ?_); first | refine k_len rfl hol ?_ | refine k_mv rfl ?_))
    have st : StL h2 ms (strs xs ms).flatten fs (strs xs ms) h5 u o ((strs xs ms).take 0).flatten.length := by
      refine ⟨e3.trans e5, ?_, of.sl, f2_mono (fun f L h => ⟨h.1, far_apart o3 h.2⟩) hff, far_apart o3 fun j hj => notAt_of_le of hj⟩
      have := Go.Ab.Own.ext o3 e5
      simpa [lbK] using this
    have e12 := e1.trans e2
    refine w_loop (I12i h2 (.ptr h0.length 0) u o ms fs (strs xs ms)) (cntV (strs xs ms).length 24) (R12i h2 (.ptr h0.length 0) u o ms fs (strs xs ms)) ⟨0, by omega, st, rfl⟩ (round12i h2 h0.length s m u o l b2 xs ms (IsSl.ext hs e12) hF fs (strs xs ms) (strs_small hF) (walkH_len hF) hsz) ?_
    rintro ex E' h6 ⟨rfl, st6, b, c, d, e, f, rfl⟩
    have b6 := b2.ext st6.e
    have e06 := e12.trans st6.e
    have hu : IsInts h6 u (labs xs ms) := st6.ou.ids
    have hb0 : BL h6 (h6 ++ [.cells [.nilP, .nilS] true ⟨0, some 60⟩]) h6.length [] := Bld.new 60 bz (Ext.refl h6)
    have x7 : Ext h6 (h6 ++ [.cells [.nilP, .nilS] true ⟨0, some 60⟩]) := ⟨_, rfl⟩
    have b7 := b6.ext x7
    repeat' (first | refine w_seq ?_ | refine w_seqN ?_ | refine w_blk ?_ | refine w_blkX ?_ | refine w_ops ?_ | ((refine i_nil ?_); first | refine w_end3 rfl rfl rfl ?_ | refine w_end6 rfl rfl rfl rfl rfl rfl ?_) | ((refine i_cons ?_); first | refine k_newT ?_ | refine k_fldA rfl ?_ | refine k_ldb rfl b7 rfl ?_ | refine k_len rfl hxl ?_ | refine k_mv rfl ?_))
    refine w_loop (I12c' h6 h6.length (.ptr h0.length 0) u s xs (labs xs ms)) (cntV xs.length 53) (R12c' h6 h6.length (.ptr h0.length 0) xs (labs xs ms)) ⟨0, by omega, hb0, rfl⟩ (round12c' h6 h6.length _ u s xs (labs xs ms) (IsSl.ext hx e06) hu hmo hn (by omega)) ?_
    rintro ex E' h8 ⟨rfl, hb8, a, x, y, z, w, rfl⟩
    have q1 := txtK_len (xs := xs) hmo xs.length
    have q3 := itoa_len (x := l) (by omega)
    have c1 := call32 h6 h8 h6.length _ loopsT hb8 (by omega) (by decide)
    repeat' (first | refine w_seq ?_ | refine w_seqN ?_ | refine w_blkX ?_ | refine w_ret ?_ | refine w_ops ?_ | ((refine i_nil ?_); first | refine w_end1 rfl ?_ | refine w_end2 rfl rfl ?_) | ((refine i_cons ?_); first | (refine k_call (show _ = some [.sc (.ptr h6.length 0), .sc (tb loopsT)] from rfl) c1 ?_; rintro v h9 hb9; have b9 := b6.ext (BL.e hb9)) | refine k_fldA rfl ?_ | refine k_ldb rfl b9 rfl ?_ | (refine k_call rfl (itoa_call l (by omega)) ?_; rintro v h10 ⟨rfl, rfl⟩; have c2 := call32 h6 h10 h6.length _ (Lib.itoa l) hb9 (by simp only [List.length_append, loopsT, List.length_cons, List.length_nil]; omega) (by omega)) | (refine k_call rfl c2 ?_; rintro v h11 hb11; have c3 := call31 h6 h11 h6.length _ 10 hb11 (by simp only [List.length_append, loopsT, List.length_cons, List.length_nil]; omega)) | (refine k_call rfl c3 ?_; rintro v h12 ⟨rfl, hb12⟩; have c4 := call33 h6 h12 h6.length _ hb12 (by simp only [List.length_append, loopsT, List.length_cons, List.length_nil]; omega)) | (refine k_call rfl c4 ?_; rintro v h13 ⟨rfl, e13⟩) | refine k_mv rfl ?_))
    exact ⟨.inr rfl, e06.trans e13, .inl ⟨hV, rfl⟩⟩
  · have k2 : ∀ h1, Ext h0 h1 → ∃ v h', Cal FT HKt 20 [.agg [s, m, .int .i64 l]] h1 v h' ∧ Ext h1 h' ∧ v = .sc (.bool false) := fun h1 e1 => by
      obtain ⟨v, h', a, b, c, rfl, d⟩ := k1 h1 e1
      cases c with
      | false => exact ⟨_, h', a, b, rfl⟩
      | true => exact absurd (d.1 rfl) hV
    repeat' (first | refine w_seq ?_ | refine w_seqN ?_ | refine w_seqR ?_ | refine w_ret ?_ | refine w_ops ?_ | ((refine i_cond ?_); refine w_condT rfl ?_) | ((refine i_nil ?_); first | refine w_end1 rfl ?_ | refine w_end2 rfl rfl ?_) | ((refine i_cons ?_); first | (refine k_box rfl rfl ?_; intro h1 e1 l1 b1) | refine k_ldA rfl b1 rfl ?_ | (refine k_call rfl (k2 h1 e1) ?_; rintro v h2 ⟨e2, rfl⟩) | refine k_mv rfl ?_ | refine k_notF rfl ?_))
    exact ⟨.inr rfl, e1.trans e2, .inr ⟨hV, rfl⟩⟩
end Go.Proofs.YtehnalbdfnmphaaDoor
