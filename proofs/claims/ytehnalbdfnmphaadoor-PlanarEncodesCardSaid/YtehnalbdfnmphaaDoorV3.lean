/- diagram.label: the search for the components. -/
import Derived.Test.YtehnalbdfnmphaaDoorV2
import Derived.Test.YtehnalbdfnmphaaDoorAb35
namespace Go.Proofs.YtehnalbdfnmphaaDoor
open Go.Ab
set_option linter.unusedVariables false
set_option linter.unusedSimpArgs false
set_option maxRecDepth 20000
set_option maxHeartbeats 4000000
attribute [local irreducible] wOps wA wSeq wBlk wRound wRoundI wOpsD
variable {HK : FuncId → Option Hook}

/-- A box with a Diagram, and a row of integers behind it. -/
def LH (h0 : Heap) (s m : SV) (l : Int) (ps : List Int) : Heap := h0 ++ [.cells [s, m, .int .i64 l] true 0, .cells (ps.map (.int .i64)) true 1]
theorem LH_box {h0 : Heap} {s m : SV} {l : Int} {ps : List Int} (T : Heap) : Blk.At (LH h0 s m l ps ++ T) h0.length [s, m, .int .i64 l] :=
  ⟨true, 0, by simp [LH]⟩
theorem LH_ext {h0 : Heap} {s m : SV} {l : Int} {ps : List Int} (T : Heap) : Ext h0 (LH h0 s m l ps ++ T) := ⟨_, by simp [LH]; rfl⟩
theorem LH_at {h0 : Heap} {s m : SV} {l : Int} {ps : List Int} (T : Heap) : (LH h0 s m l ps ++ T)[h0.length + 1]? = some (.cells (ps.map (.int .i64)) true 1) := by
  simp [LH]
theorem LH_rd {h0 : Heap} {s m : SV} {l : Int} {ps : List Int} (T : Heap) {k : Nat} (hk : k < ps.length) {j : Int} (hj : j = (k : Nat)) : readN (LH h0 s m l ps ++ T) (h0.length + 1) (0 + j.toNat * 1) 1 = some [.int .i64 (ps.getD k 0)] := by
  subst hj
  rw [Int.toNat_natCast]
  simp only [readN, LH_at]
  exact cut1 (by simp [List.getD, hk])
theorem LH_wr {h0 : Heap} {s m : SV} {l : Int} {ps : List Int} (T : Heap) {k : Nat} (hk : k < ps.length) {j : Int} (hj : j = (k : Nat)) {x : Int} : writeN (LH h0 s m l ps ++ T) (h0.length + 1) (0 + j.toNat * 1) [.int .i64 x] = some (LH h0 s m l (ps.set k x) ++ T) := by
  subst hj
  rw [Int.toNat_natCast]
  have hsp : splice (ps.map (SV.int .i64)) k [.int .i64 x] = (ps.set k x).map (.int .i64) := by
    rw [List.map_set, List.set_eq_take_append_cons_drop, if_pos (by simpa using hk)]
    simp [splice]
  simp only [writeN, LH_at, Nat.zero_add, Nat.mul_one, List.length_singleton]
  rw [if_pos (by simp; omega), hsp]
  simp [LH]
theorem LH_len {h0 : Heap} {s m : SV} {l : Int} {ps : List Int} : (LH h0 s m l ps).length = h0.length + 2 := by simp [LH]
theorem OwnQ.rebase {h0 : Heap} {s m : SV} {l : Int} {ps ps' : List Int} {T : Heap} {q : SV} {vs : List SV} (ho : OwnQ (LH h0 s m l ps) (LH h0 s m l ps ++ T) q vs) : OwnQ (LH h0 s m l ps') (LH h0 s m l ps' ++ T) q vs := by
  rcases ho with h | ⟨id, off, cap, cs, e1, e2, e3, e4⟩
  · exact .inl h
  · rw [LH_len] at e2
    refine .inr ⟨id, off, cap, cs, e1, by rw [LH_len]; exact e2, ?_, e4⟩
    rw [List.getElem?_append_right (by rw [LH_len]; exact e2)] at e3 ⊢
    rw [LH_len] at e3 ⊢
    exact e3

def cntV (n k : Nat) (E : Env) (_ : Heap) : Nat := match E.get k with
  | some (.sc (.int _ i)) => n - i.toNat
  | _ => 0

/-! ### All have no number -/
theorem fill_set {n i : Nat} (hi : i < n) : (List.replicate i (-1 : Int) ++ List.replicate (n - i) 0).set i (-1) = List.replicate (i + 1) (-1) ++ List.replicate (n - (i + 1)) 0 := by
  rw [List.set_append_right _ _ (by simp)]
  simp only [List.length_replicate, Nat.sub_self]
  rw [show n - i = (n - (i + 1)) + 1 by omega, List.replicate_succ, List.set_cons_zero, List.replicate_succ', List.append_assoc]; rfl
def I62a (h0 : Heap) (s m : SV) (l : Int) (n : Nat) (E : Env) (h : Heap) : Prop := ∃ i : Nat, i ≤ n ∧ h = LH h0 s m l (List.replicate i (-1) ++ List.replicate (n - i) 0) ++ [] ∧
  E = [(1, some (.sc (.ptr h0.length 0))), (4, some (.sc (.slc (h0.length + 1) 0 n (some n)))), (17, some (.sc (.int .i64 (n : Nat)))), (18, some (.sc (.int .i64 (i : Nat))))]
def R62a (h0 : Heap) (s m : SV) (l : Int) (n : Nat) (ex : Ex) (E : Env) (h : Heap) : Prop := ex = .ex 0 ∧ h = LH h0 s m l (List.replicate n (-1)) ++ [] ∧ ∃ a b c,
  E = [(1, some (.sc (.ptr h0.length 0))), (4, some (.sc (.slc (h0.length + 1) 0 n (some n)))), (17, a), (18, b), (19, c)]
theorem round62a (h0 : Heap) (s m : SV) (l : Int) (n : Nat) (hn : n ≤ 64) (E : Env) (h : Heap) (hI : I62a h0 s m l n E h) :
    wA FT HK b62L0 (E.keep [1, 4, 17, 18]) h (wRound (I62a h0 s m l n) (cntV n 18) (cntV n 18 E h) (R62a h0 s m l n)) := by
  obtain ⟨i, hi, rfl, rfl⟩ := hI
  by_cases hlt : i < n
  · repeat' (first | refine w_seq ?_ | refine w_seqN ?_ | refine w_seqX ?_ | refine w_seqR ?_ | refine w_blk ?_ | refine w_blkN ?_ | refine w_blkX ?_ | refine w_blkR ?_ | refine w_skip ?_ | refine w_ret ?_ | refine w_exit ?_ | refine w_ops ?_ | refine w_opsD ?_ | refine d_one ?_ | refine d_nil ?_ | ((refine i_cond ?_); first | refine w_condT rfl ?_ | refine w_condF rfl ?_) | ((refine i_nil ?_); first | refine d_same ?_ | refine d_ord ?_ | refine d_ext ⟨_, rfl⟩ ?_ | refine d_ext (extA _ _ _) ?_ | refine d_ext (by assumption) ?_ | refine w_end0 ?_ | refine w_end1 rfl ?_ | refine w_end2 rfl rfl ?_ | refine w_end3 rfl rfl rfl ?_ | refine w_end4 rfl rfl rfl rfl ?_ | refine w_end5 rfl rfl rfl rfl rfl ?_ | refine w_end6 rfl rfl rfl rfl rfl rfl ?_ | refine w_end7 rfl rfl rfl rfl rfl rfl rfl ?_ | refine w_end8 rfl rfl rfl rfl rfl rfl rfl rfl ?_ | refine w_end9 rfl rfl rfl rfl rfl rfl rfl rfl rfl ?_ | refine w_end10 rfl rfl rfl rfl rfl rfl rfl rfl rfl rfl ?_ | refine w_end11 rfl rfl rfl rfl rfl rfl rfl rfl rfl rfl rfl ?_ | refine w_end12 rfl rfl rfl rfl rfl rfl rfl rfl rfl rfl rfl rfl ?_ | refine w_end13 rfl rfl rfl rfl rfl rfl rfl rfl rfl rfl rfl rfl rfl ?_ | refine w_end14 rfl rfl rfl rfl rfl rfl rfl rfl rfl rfl rfl rfl rfl rfl ?_ | refine w_end15 rfl rfl rfl rfl rfl rfl rfl rfl rfl rfl rfl rfl rfl rfl rfl ?_ | refine w_end16 rfl rfl rfl rfl rfl rfl rfl rfl rfl rfl rfl rfl rfl rfl rfl rfl ?_) | ((refine i_cons ?_); first | refine k_idxA rfl rfl (by omega) ?_ | refine k_st rfl rfl (LH_wr [] (k := i) (by simp; omega) rfl) ?_ | refine k_skip rfl ?_ | refine k_skipU rfl ?_ | refine k_want rfl ?_ | refine k_mv rfl ?_ | refine k_pickT rfl rfl ?_ | refine k_pickF rfl rfl ?_ | refine k_notT rfl ?_ | refine k_notF rfl ?_ | refine k_add rfl rfl (by omega) ?_ | refine k_sub rfl rfl (by omega) ?_ | refine k_mul rfl rfl (by omega) ?_ | refine k_neg rfl (by omega) ?_ | refine k_quo rfl rfl (by omega) ?_ | refine k_rem rfl rfl (by omega) ?_ | refine k_conv rfl (by omega) ?_ | refine k_max rfl rfl ?_ | refine k_min rfl rfl ?_ | refine k_lssT rfl rfl (by omega) ?_ | refine k_lssF rfl rfl (by omega) ?_ | refine k_lss rfl rfl (fun hc => ?_) (fun hc => ?_) | refine k_leqT rfl rfl (by omega) ?_ | refine k_leqF rfl rfl (by omega) ?_ | refine k_leq rfl rfl (fun hc => ?_) (fun hc => ?_) | refine k_gtrT rfl rfl (by omega) ?_ | refine k_gtrF rfl rfl (by omega) ?_ | refine k_gtr rfl rfl (fun hc => ?_) (fun hc => ?_) | refine k_geqT rfl rfl (by omega) ?_ | refine k_geqF rfl rfl (by omega) ?_ | refine k_geq rfl rfl (fun hc => ?_) (fun hc => ?_) | refine k_eqlT rfl rfl (by omega) ?_ | refine k_eqlF rfl rfl (by omega) ?_ | refine k_eql rfl rfl (fun hc => ?_) (fun hc => ?_) | refine k_neqT rfl rfl (by omega) ?_ | refine k_neqF rfl rfl (by omega) ?_ | refine k_neq rfl rfl (fun hc => ?_) (fun hc => ?_) | refine k_len rfl rfl ?_ | refine k_ok rfl rfl ?_))
    exact w_roundN ⟨i + 1, by omega, by rw [fill_set hlt], rfl⟩ (by simp [cntV, Env.get]; omega)
  · have : i = n := by omega
    subst this
    repeat' (first | refine w_seq ?_ | refine w_seqN ?_ | refine w_seqX ?_ | refine w_seqR ?_ | refine w_blk ?_ | refine w_blkN ?_ | refine w_blkX ?_ | refine w_blkR ?_ | refine w_skip ?_ | refine w_ret ?_ | refine w_exit ?_ | refine w_ops ?_ | refine w_opsD ?_ | refine d_one ?_ | refine d_nil ?_ | ((refine i_cond ?_); first | refine w_condT rfl ?_ | refine w_condF rfl ?_) | ((refine i_nil ?_); first | refine d_same ?_ | refine d_ord ?_ | refine d_ext ⟨_, rfl⟩ ?_ | refine d_ext (extA _ _ _) ?_ | refine d_ext (by assumption) ?_ | refine w_end0 ?_ | refine w_end1 rfl ?_ | refine w_end2 rfl rfl ?_ | refine w_end3 rfl rfl rfl ?_ | refine w_end4 rfl rfl rfl rfl ?_ | refine w_end5 rfl rfl rfl rfl rfl ?_ | refine w_end6 rfl rfl rfl rfl rfl rfl ?_ | refine w_end7 rfl rfl rfl rfl rfl rfl rfl ?_ | refine w_end8 rfl rfl rfl rfl rfl rfl rfl rfl ?_ | refine w_end9 rfl rfl rfl rfl rfl rfl rfl rfl rfl ?_ | refine w_end10 rfl rfl rfl rfl rfl rfl rfl rfl rfl rfl ?_ | refine w_end11 rfl rfl rfl rfl rfl rfl rfl rfl rfl rfl rfl ?_ | refine w_end12 rfl rfl rfl rfl rfl rfl rfl rfl rfl rfl rfl rfl ?_ | refine w_end13 rfl rfl rfl rfl rfl rfl rfl rfl rfl rfl rfl rfl rfl ?_ | refine w_end14 rfl rfl rfl rfl rfl rfl rfl rfl rfl rfl rfl rfl rfl rfl ?_ | refine w_end15 rfl rfl rfl rfl rfl rfl rfl rfl rfl rfl rfl rfl rfl rfl rfl ?_ | refine w_end16 rfl rfl rfl rfl rfl rfl rfl rfl rfl rfl rfl rfl rfl rfl rfl rfl ?_) | ((refine i_cons ?_); first | refine k_skip rfl ?_ | refine k_skipU rfl ?_ | refine k_want rfl ?_ | refine k_mv rfl ?_ | refine k_pickT rfl rfl ?_ | refine k_pickF rfl rfl ?_ | refine k_notT rfl ?_ | refine k_notF rfl ?_ | refine k_add rfl rfl (by omega) ?_ | refine k_sub rfl rfl (by omega) ?_ | refine k_mul rfl rfl (by omega) ?_ | refine k_neg rfl (by omega) ?_ | refine k_quo rfl rfl (by omega) ?_ | refine k_rem rfl rfl (by omega) ?_ | refine k_conv rfl (by omega) ?_ | refine k_max rfl rfl ?_ | refine k_min rfl rfl ?_ | refine k_lssT rfl rfl (by omega) ?_ | refine k_lssF rfl rfl (by omega) ?_ | refine k_lss rfl rfl (fun hc => ?_) (fun hc => ?_) | refine k_leqT rfl rfl (by omega) ?_ | refine k_leqF rfl rfl (by omega) ?_ | refine k_leq rfl rfl (fun hc => ?_) (fun hc => ?_) | refine k_gtrT rfl rfl (by omega) ?_ | refine k_gtrF rfl rfl (by omega) ?_ | refine k_gtr rfl rfl (fun hc => ?_) (fun hc => ?_) | refine k_geqT rfl rfl (by omega) ?_ | refine k_geqF rfl rfl (by omega) ?_ | refine k_geq rfl rfl (fun hc => ?_) (fun hc => ?_) | refine k_eqlT rfl rfl (by omega) ?_ | refine k_eqlF rfl rfl (by omega) ?_ | refine k_eql rfl rfl (fun hc => ?_) (fun hc => ?_) | refine k_neqT rfl rfl (by omega) ?_ | refine k_neqF rfl rfl (by omega) ?_ | refine k_neq rfl rfl (fun hc => ?_) (fun hc => ?_) | refine k_len rfl rfl ?_ | refine k_ok rfl rfl ?_))
    exact w_roundX ⟨rfl, by simp, _, _, _, rfl⟩

/-! ### The four edges of a crossing -/
def St62 (h0 : Heap) (s m : SV) (l : Int) (ms : List Int) (n P c0 k : Nat) (qs : List Nat) (ex : Nat → Prop) (q : SV) (ps : List Int) (h : Heap) : Prop :=
  Bf ms n ps P c0 qs ex k ∧ ∃ T, h = LH h0 s m l ps ++ T ∧ OwnQ (LH h0 s m l ps) h q (qs.map fun x => .int .i64 (x : Nat))
def I62s (h0 : Heap) (s m : SV) (l : Int) (ms : List Int) (n P c0 k a : Nat) (E : Env) (h : Heap) : Prop := ∃ (i : Nat) (ps : List Int) (qs : List Nat) (q : SV), i ≤ 4 ∧
  St62 h0 s m l ms n P c0 k qs (fun b => b = a) q ps h ∧ ps.getD a 0 = (P : Int) ∧ (∀ j, j < i → ps.getD (mateN ms (4 * a + j) / 4) 0 = (P : Int)) ∧
  E = [(1, some (.sc (.ptr h0.length 0))), (4, some (.sc (.slc (h0.length + 1) 0 n (some n)))), (6, some (.sc (.int .i64 (P : Nat)))), (8, some (.sc q)), (9, some (.sc (.int .i64 (a : Nat)))), (26, some (.sc (.int .i64 (n : Nat)))), (27, some (.sc (.int .i64 (c0 : Nat)))), (49, some (.sc (.int .i64 (i : Nat))))]
def R62s (h0 : Heap) (s m : SV) (l : Int) (ms : List Int) (n P c0 k : Nat) (ex : Ex) (E : Env) (h : Heap) : Prop := ex = .ex 6 ∧ ∃ (ps : List Int) (qs : List Nat) (q : SV),
  St62 h0 s m l ms n P c0 k qs (fun _ => False) q ps h ∧ ∃ a b c,
  E = [(1, some (.sc (.ptr h0.length 0))), (4, some (.sc (.slc (h0.length + 1) 0 n (some n)))), (6, some (.sc (.int .i64 (P : Nat)))), (8, some (.sc q)), (9, a), (26, some (.sc (.int .i64 (n : Nat)))), (27, some (.sc (.int .i64 (c0 : Nat)))), (49, b), (50, c)]

theorem round62s (h0 : Heap) (s m : SV) (l : Int) (ms : List Int) (n P c0 k a : Nat) (hs : IsInts h0 m ms) (hm : Mates ms) (hv : Inv ms) (hf : Fits ms n) (hn : n ≤ 64) (hk : k ≤ 64) (ha : a < n) (E : Env) (h : Heap) (hI : I62s h0 s m l ms n P c0 k a E h) :
    wA FT HK b62L3 (E.keep [1, 4, 6, 8, 9, 26, 27, 49]) h (wRound (I62s h0 s m l ms n P c0 k a) (cntV 4 49) (cntV 4 49 E h) (R62s h0 s m l ms n P c0 k)) := by
  obtain ⟨i, ps, qs, q, hi, ⟨hb, T, rfl, hq⟩, hpa, hall, rfl⟩ := hI
  have hn4 := hf.n4
  have hbl := hb.len
  have hPc := hb.num
  have hc0 := hb.root.1
  by_cases hlt : i < 4
  · have hh : 4 * a + i < ms.length := by omega
    obtain ⟨t, hg1, hg2⟩ := hm.get _ hh
    have htN : mateN ms (4 * a + i) = t := by unfold mateN; rw [getD_at hg1]; simp
    obtain ⟨id, off, cap, rfl, hr⟩ := IsInts.at (IsSl.ext hs (LH_ext (s := s) (m := m) (l := l) (ps := ps) T)) hg1
    have hr2 : ∀ {j : Int}, j = ((4 * a + i : Nat) : Int) → readN (LH h0 s (.slc id off ms.length cap) l ps ++ T) id (off + j.toNat * 1) 1 = some [.int .i64 (t : Int)] := fun hj => by subst hj; rw [Int.toNat_natCast]; exact hr
    have htl : t / 4 < ps.length := by omega
    have hst : Step ms a (t / 4) := ⟨4 * a + i, hh, by omega, by rw [htN]⟩
    by_cases hp : ps.getD (t / 4) 0 = -1
    · have hb2 := hb.push hf hpa hst hp
      have hg := fun k => getD_set (x := (P : Int)) htl k
      have hql : qs.length ≤ k := by have := hb.cnt; omega
      repeat' (first | refine w_seq ?_ | refine w_seqN ?_ | refine w_seqX ?_ | refine w_seqR ?_ | refine w_blk ?_ | refine w_blkN ?_ | refine w_blkX ?_ | refine w_blkR ?_ | refine w_skip ?_ | refine w_ret ?_ | refine w_exit ?_ | refine w_ops ?_ | refine w_opsD ?_ | refine d_one ?_ | refine d_nil ?_ | ((refine i_cond ?_); first | refine w_condT rfl ?_ | refine w_condF rfl ?_) | ((refine i_nil ?_); first | refine d_same ?_ | refine d_ord ?_ | refine d_ext ⟨_, rfl⟩ ?_ | refine d_ext (extA _ _ _) ?_ | refine d_ext (by assumption) ?_ | refine w_end0 ?_ | refine w_end1 rfl ?_ | refine w_end2 rfl rfl ?_ | refine w_end3 rfl rfl rfl ?_ | refine w_end4 rfl rfl rfl rfl ?_ | refine w_end5 rfl rfl rfl rfl rfl ?_ | refine w_end6 rfl rfl rfl rfl rfl rfl ?_ | refine w_end7 rfl rfl rfl rfl rfl rfl rfl ?_ | refine w_end8 rfl rfl rfl rfl rfl rfl rfl rfl ?_ | refine w_end9 rfl rfl rfl rfl rfl rfl rfl rfl rfl ?_ | refine w_end10 rfl rfl rfl rfl rfl rfl rfl rfl rfl rfl ?_ | refine w_end11 rfl rfl rfl rfl rfl rfl rfl rfl rfl rfl rfl ?_ | refine w_end12 rfl rfl rfl rfl rfl rfl rfl rfl rfl rfl rfl rfl ?_ | refine w_end13 rfl rfl rfl rfl rfl rfl rfl rfl rfl rfl rfl rfl rfl ?_ | refine w_end14 rfl rfl rfl rfl rfl rfl rfl rfl rfl rfl rfl rfl rfl rfl ?_ | refine w_end15 rfl rfl rfl rfl rfl rfl rfl rfl rfl rfl rfl rfl rfl rfl rfl ?_ | refine w_end16 rfl rfl rfl rfl rfl rfl rfl rfl rfl rfl rfl rfl rfl rfl rfl rfl ?_) | ((refine i_cons ?_); first | refine k_fldA rfl ?_ | refine k_ldb rfl (LH_box T) rfl ?_ | refine k_idxA rfl rfl (by omega) ?_ | refine k_ld rfl (hr2 (by omega)) ?_ | refine k_ld rfl (LH_rd T htl (by omega)) ?_ | refine k_st rfl rfl (LH_wr T htl (by omega)) ?_ | (refine k_pushQ ⟨_, rfl⟩ (OwnQ.rebase hq) rfl rfl (by simp [bigN]; omega) ?_; intro q2 h2 hq2 he2 hf2) | refine k_skip rfl ?_ | refine k_skipU rfl ?_ | refine k_want rfl ?_ | refine k_mv rfl ?_ | refine k_pickT rfl rfl ?_ | refine k_pickF rfl rfl ?_ | refine k_notT rfl ?_ | refine k_notF rfl ?_ | refine k_add rfl rfl (by omega) ?_ | refine k_sub rfl rfl (by omega) ?_ | refine k_mul rfl rfl (by omega) ?_ | refine k_neg rfl (by omega) ?_ | refine k_quo rfl rfl (by omega) ?_ | refine k_rem rfl rfl (by omega) ?_ | refine k_conv rfl (by omega) ?_ | refine k_max rfl rfl ?_ | refine k_min rfl rfl ?_ | refine k_lssT rfl rfl (by omega) ?_ | refine k_lssF rfl rfl (by omega) ?_ | refine k_lss rfl rfl (fun hc => ?_) (fun hc => ?_) | refine k_leqT rfl rfl (by omega) ?_ | refine k_leqF rfl rfl (by omega) ?_ | refine k_leq rfl rfl (fun hc => ?_) (fun hc => ?_) | refine k_gtrT rfl rfl (by omega) ?_ | refine k_gtrF rfl rfl (by omega) ?_ | refine k_gtr rfl rfl (fun hc => ?_) (fun hc => ?_) | refine k_geqT rfl rfl (by omega) ?_ | refine k_geqF rfl rfl (by omega) ?_ | refine k_geq rfl rfl (fun hc => ?_) (fun hc => ?_) | refine k_eqlT rfl rfl (by omega) ?_ | refine k_eqlF rfl rfl (by omega) ?_ | refine k_eql rfl rfl (fun hc => ?_) (fun hc => ?_) | refine k_neqT rfl rfl (by omega) ?_ | refine k_neqF rfl rfl (by omega) ?_ | refine k_neq rfl rfl (fun hc => ?_) (fun hc => ?_) | refine k_len rfl rfl ?_ | refine k_ok rfl rfl ?_))
      obtain ⟨T2, rfl⟩ := he2
      refine w_roundN ⟨i + 1, ps.set (t / 4) P, qs ++ [t / 4], q2, by omega, ⟨hb2, T2, rfl, ?_⟩, ?_, ?_, rfl⟩ (by simp [cntV, Env.get]; omega)
      · rw [show (t : Int) / 4 = ((t / 4 : Nat) : Int) by omega] at hq2
        rw [List.map_append]; exact hq2
      · rw [hg]; split
        · rfl
        · exact hpa
      · intro j hj
        rw [hg]; split
        · rfl
        · rename_i hne
          rcases Nat.lt_or_ge j i with h1 | h1
          · exact hall j h1
          · have : j = i := by omega
            subst this
            rw [htN] at hne
            exact absurd rfl hne
    · have hP := hb.seen hm hv hf hpa hst hp
      repeat' (first | refine w_seq ?_ | refine w_seqN ?_ | refine w_seqX ?_ | refine w_seqR ?_ | refine w_blk ?_ | refine w_blkN ?_ | refine w_blkX ?_ | refine w_blkR ?_ | refine w_skip ?_ | refine w_ret ?_ | refine w_exit ?_ | refine w_ops ?_ | refine w_opsD ?_ | refine d_one ?_ | refine d_nil ?_ | ((refine i_cond ?_); first | refine w_condT rfl ?_ | refine w_condF rfl ?_) | ((refine i_nil ?_); first | refine d_same ?_ | refine d_ord ?_ | refine d_ext ⟨_, rfl⟩ ?_ | refine d_ext (extA _ _ _) ?_ | refine d_ext (by assumption) ?_ | refine w_end0 ?_ | refine w_end1 rfl ?_ | refine w_end2 rfl rfl ?_ | refine w_end3 rfl rfl rfl ?_ | refine w_end4 rfl rfl rfl rfl ?_ | refine w_end5 rfl rfl rfl rfl rfl ?_ | refine w_end6 rfl rfl rfl rfl rfl rfl ?_ | refine w_end7 rfl rfl rfl rfl rfl rfl rfl ?_ | refine w_end8 rfl rfl rfl rfl rfl rfl rfl rfl ?_ | refine w_end9 rfl rfl rfl rfl rfl rfl rfl rfl rfl ?_ | refine w_end10 rfl rfl rfl rfl rfl rfl rfl rfl rfl rfl ?_ | refine w_end11 rfl rfl rfl rfl rfl rfl rfl rfl rfl rfl rfl ?_ | refine w_end12 rfl rfl rfl rfl rfl rfl rfl rfl rfl rfl rfl rfl ?_ | refine w_end13 rfl rfl rfl rfl rfl rfl rfl rfl rfl rfl rfl rfl rfl ?_ | refine w_end14 rfl rfl rfl rfl rfl rfl rfl rfl rfl rfl rfl rfl rfl rfl ?_ | refine w_end15 rfl rfl rfl rfl rfl rfl rfl rfl rfl rfl rfl rfl rfl rfl rfl ?_ | refine w_end16 rfl rfl rfl rfl rfl rfl rfl rfl rfl rfl rfl rfl rfl rfl rfl rfl ?_) | ((refine i_cons ?_); first | refine k_fldA rfl ?_ | refine k_ldb rfl (LH_box T) rfl ?_ | refine k_idxA rfl rfl (by omega) ?_ | refine k_ld rfl (hr2 (by omega)) ?_ | refine k_ld rfl (LH_rd T htl (by omega)) ?_ | refine k_skip rfl ?_ | refine k_skipU rfl ?_ | refine k_want rfl ?_ | refine k_mv rfl ?_ | refine k_pickT rfl rfl ?_ | refine k_pickF rfl rfl ?_ | refine k_notT rfl ?_ | refine k_notF rfl ?_ | refine k_add rfl rfl (by omega) ?_ | refine k_sub rfl rfl (by omega) ?_ | refine k_mul rfl rfl (by omega) ?_ | refine k_neg rfl (by omega) ?_ | refine k_quo rfl rfl (by omega) ?_ | refine k_rem rfl rfl (by omega) ?_ | refine k_conv rfl (by omega) ?_ | refine k_max rfl rfl ?_ | refine k_min rfl rfl ?_ | refine k_lssT rfl rfl (by omega) ?_ | refine k_lssF rfl rfl (by omega) ?_ | refine k_lss rfl rfl (fun hc => ?_) (fun hc => ?_) | refine k_leqT rfl rfl (by omega) ?_ | refine k_leqF rfl rfl (by omega) ?_ | refine k_leq rfl rfl (fun hc => ?_) (fun hc => ?_) | refine k_gtrT rfl rfl (by omega) ?_ | refine k_gtrF rfl rfl (by omega) ?_ | refine k_gtr rfl rfl (fun hc => ?_) (fun hc => ?_) | refine k_geqT rfl rfl (by omega) ?_ | refine k_geqF rfl rfl (by omega) ?_ | refine k_geq rfl rfl (fun hc => ?_) (fun hc => ?_) | refine k_eqlT rfl rfl (by omega) ?_ | refine k_eqlF rfl rfl (by omega) ?_ | refine k_eql rfl rfl (fun hc => ?_) (fun hc => ?_) | refine k_neqT rfl rfl (by omega) ?_ | refine k_neqF rfl rfl (by omega) ?_ | refine k_neq rfl rfl (fun hc => ?_) (fun hc => ?_) | refine k_len rfl rfl ?_ | refine k_ok rfl rfl ?_))
      refine w_roundN ⟨i + 1, ps, qs, q, by omega, ⟨hb, T, rfl, hq⟩, hpa, ?_, rfl⟩ (by simp [cntV, Env.get]; omega)
      intro j hj
      rcases Nat.lt_or_ge j i with h1 | h1
      · exact hall j h1
      · have : j = i := by omega
        subst this
        rw [htN]; exact hP
  · have : i = 4 := by omega
    subst this
    repeat' (first | refine w_seq ?_ | refine w_seqN ?_ | refine w_seqX ?_ | refine w_seqR ?_ | refine w_blk ?_ | refine w_blkN ?_ | refine w_blkX ?_ | refine w_blkR ?_ | refine w_skip ?_ | refine w_ret ?_ | refine w_exit ?_ | refine w_ops ?_ | refine w_opsD ?_ | refine d_one ?_ | refine d_nil ?_ | ((refine i_cond ?_); first | refine w_condT rfl ?_ | refine w_condF rfl ?_) | ((refine i_nil ?_); first | refine d_same ?_ | refine d_ord ?_ | refine d_ext ⟨_, rfl⟩ ?_ | refine d_ext (extA _ _ _) ?_ | refine d_ext (by assumption) ?_ | refine w_end0 ?_ | refine w_end1 rfl ?_ | refine w_end2 rfl rfl ?_ | refine w_end3 rfl rfl rfl ?_ | refine w_end4 rfl rfl rfl rfl ?_ | refine w_end5 rfl rfl rfl rfl rfl ?_ | refine w_end6 rfl rfl rfl rfl rfl rfl ?_ | refine w_end7 rfl rfl rfl rfl rfl rfl rfl ?_ | refine w_end8 rfl rfl rfl rfl rfl rfl rfl rfl ?_ | refine w_end9 rfl rfl rfl rfl rfl rfl rfl rfl rfl ?_ | refine w_end10 rfl rfl rfl rfl rfl rfl rfl rfl rfl rfl ?_ | refine w_end11 rfl rfl rfl rfl rfl rfl rfl rfl rfl rfl rfl ?_ | refine w_end12 rfl rfl rfl rfl rfl rfl rfl rfl rfl rfl rfl rfl ?_ | refine w_end13 rfl rfl rfl rfl rfl rfl rfl rfl rfl rfl rfl rfl rfl ?_ | refine w_end14 rfl rfl rfl rfl rfl rfl rfl rfl rfl rfl rfl rfl rfl rfl ?_ | refine w_end15 rfl rfl rfl rfl rfl rfl rfl rfl rfl rfl rfl rfl rfl rfl rfl ?_ | refine w_end16 rfl rfl rfl rfl rfl rfl rfl rfl rfl rfl rfl rfl rfl rfl rfl rfl ?_) | ((refine i_cons ?_); first | refine k_skip rfl ?_ | refine k_skipU rfl ?_ | refine k_want rfl ?_ | refine k_mv rfl ?_ | refine k_pickT rfl rfl ?_ | refine k_pickF rfl rfl ?_ | refine k_notT rfl ?_ | refine k_notF rfl ?_ | refine k_add rfl rfl (by omega) ?_ | refine k_sub rfl rfl (by omega) ?_ | refine k_mul rfl rfl (by omega) ?_ | refine k_neg rfl (by omega) ?_ | refine k_quo rfl rfl (by omega) ?_ | refine k_rem rfl rfl (by omega) ?_ | refine k_conv rfl (by omega) ?_ | refine k_max rfl rfl ?_ | refine k_min rfl rfl ?_ | refine k_lssT rfl rfl (by omega) ?_ | refine k_lssF rfl rfl (by omega) ?_ | refine k_lss rfl rfl (fun hc => ?_) (fun hc => ?_) | refine k_leqT rfl rfl (by omega) ?_ | refine k_leqF rfl rfl (by omega) ?_ | refine k_leq rfl rfl (fun hc => ?_) (fun hc => ?_) | refine k_gtrT rfl rfl (by omega) ?_ | refine k_gtrF rfl rfl (by omega) ?_ | refine k_gtr rfl rfl (fun hc => ?_) (fun hc => ?_) | refine k_geqT rfl rfl (by omega) ?_ | refine k_geqF rfl rfl (by omega) ?_ | refine k_geq rfl rfl (fun hc => ?_) (fun hc => ?_) | refine k_eqlT rfl rfl (by omega) ?_ | refine k_eqlF rfl rfl (by omega) ?_ | refine k_eql rfl rfl (fun hc => ?_) (fun hc => ?_) | refine k_neqT rfl rfl (by omega) ?_ | refine k_neqF rfl rfl (by omega) ?_ | refine k_neq rfl rfl (fun hc => ?_) (fun hc => ?_) | refine k_len rfl rfl ?_ | refine k_ok rfl rfl ?_))
    exact w_roundX ⟨rfl, ps, qs, q, ⟨hb.done hpa hall, T, rfl, hq⟩, _, _, _, rfl⟩

end Go.Proofs.YtehnalbdfnmphaaDoor
