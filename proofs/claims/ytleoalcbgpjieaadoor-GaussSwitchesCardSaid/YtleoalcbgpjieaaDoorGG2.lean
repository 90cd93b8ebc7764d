/- gauss.genus: the search for the parts; its contract. -/
import Derived.Test.YtleoalcbgpjieaaDoorGG1
namespace Go.Proofs.YtleoalcbgpjieaaDoor
open Go.Ab
set_option linter.unusedVariables false
set_option linter.unusedSimpArgs false
set_option maxRecDepth 20000
set_option maxHeartbeats 4000000
attribute [local irreducible] wOps wA wSeq wBlk wRound wRoundI wOpsD

/-- The last one that waits is taken. -/
theorem Bf.popL {ms : List Int} {n : Nat} {ps : List Int} {P c0 a k : Nat} {r : List Nat} (h : Bf ms n ps P c0 (r ++ [a]) (fun _ => False) (k + 1)) : Bf ms n ps P c0 r (fun b => b = a) k :=
  ⟨h.len, h.rng, fun b d hs hb hq hx => h.closed b d hs hb (by simp only [List.mem_append, List.mem_singleton, not_or]; exact ⟨hq, hx⟩) (fun h => h), fun b hb => h.qlab b (List.mem_append_left _ hb), h.conn, h.old, h.hit, h.low, h.root, h.num, by
    have := h.cnt; simp at this; omega⟩
def rb (ps : List Int) : List Bool := ps.map fun x => decide (x ≠ -1)
def RH (B : Heap) (ps : List Int) : Heap := B ++ [SN (rb ps)]
theorem RH_len {B : Heap} {ps : List Int} : (RH B ps).length = B.length + 1 := by simp [RH]
theorem RH_ext {B : Heap} {ps : List Int} (T : Heap) : Ext B (RH B ps ++ T) := ⟨_, by simp [RH]; rfl⟩
theorem RH_at {B : Heap} {ps : List Int} (T : Heap) : (RH B ps ++ T)[B.length]? = some (SN (rb ps)) := by simp [RH]
theorem RH_rd {B : Heap} {ps : List Int} (T : Heap) {k : Nat} (hk : k < ps.length) {j : Int} (hj : j = (k : Nat)) : readN (RH B ps ++ T) B.length (0 + j.toNat * 1) 1 = some [.bool (decide (ps.getD k 0 ≠ -1))] := by
  subst hj
  rw [Int.toNat_natCast]
  simp only [readN, RH_at, SN]
  exact cut1 (by simp [rb, List.getD, hk])
theorem RH_wr {B : Heap} {ps : List Int} (T : Heap) {k : Nat} (hk : k < ps.length) {j : Int} (hj : j = (k : Nat)) {P : Nat} : writeN (RH B ps ++ T) B.length (0 + j.toNat * 1) [.bool true] = some (RH B (ps.set k (P : Int)) ++ T) := by
  subst hj
  rw [Int.toNat_natCast]
  have hP : decide (((P : Nat) : Int) ≠ -1) = true := by simp
  have hsp : splice ((rb ps).map SV.bool) k [.bool true] = (rb (ps.set k (P : Int))).map .bool := by
    rw [rb, rb, List.map_set, hP, List.map_set, List.set_eq_take_append_cons_drop, if_pos (by simpa using hk)]
    simp [splice]
  simp only [writeN, RH_at, SN, Nat.zero_add, Nat.mul_one, List.length_singleton]
  rw [if_pos (by simp [rb]; omega), hsp]
  simp [RH, SN]
theorem Own.rebR {B : Heap} {ps ps' : List Int} {T : Heap} {q : SV} {vs : List SV} (ho : Own (RH B ps) (RH B ps ++ T) q vs) : Own (RH B ps') (RH B ps' ++ T) q vs := by
  rcases ho with h | ⟨id, cap, cs, e1, e2, e3, e4⟩
  · exact .inl h
  · rw [RH_len] at e2
    refine .inr ⟨id, cap, cs, e1, by rw [RH_len]; exact e2, ?_, e4⟩
    rw [List.getElem?_append_right (by rw [RH_len]; exact e2)] at e3 ⊢
    rw [RH_len] at e3 ⊢
    exact e3

/-! ### The four edges of a crossing -/
def St36 (B : Heap) (ms : List Int) (n P c0 k : Nat) (qs : List Nat) (ex : Nat → Prop) (q : SV) (ps : List Int) (h : Heap) : Prop :=
  Bf ms n ps P c0 qs ex k ∧ ∃ T, h = RH B ps ++ T ∧ Own (RH B ps) h q (qs.map fun x => .int .i64 (x : Nat))
abbrev e36 (B : Heap) (m : SV) (n F P : Nat) (r : Env) : Env := (0, some (.sc m)) :: (3, some (.sc (.int .i64 (n : Nat)))) :: (4, some (.sc (.int .i64 (F : Nat)))) :: (5, some (.sc (.int .i64 ((P : Nat) : Int)))) :: (9, some (.sc (.slc B.length 0 n (some n)))) :: r
def I36s (B : Heap) (m : SV) (ms : List Int) (n F P c0 k a : Nat) (E : Env) (h : Heap) : Prop := ∃ (i : Nat) (ps : List Int) (qs : List Nat) (q : SV), i ≤ 4 ∧
  St36 B ms n P c0 k qs (fun b => b = a) q ps h ∧ ps.getD a 0 = (P : Int) ∧ (∀ j, j < i → ps.getD (mateN ms (4 * a + j) / 4) 0 = (P : Int)) ∧
  E = e36 B m n F (P + 1) [(11, some (.sc q)), (12, some (.sc (.int .i64 (a : Nat)))), (49, some (.sc (.int .i64 (n : Nat)))), (50, some (.sc (.int .i64 (c0 : Nat)))), (78, some (.sc (.int .i64 (i : Nat))))]
def R36s (B : Heap) (m : SV) (ms : List Int) (n F P c0 k : Nat) (ex : Ex) (E : Env) (h : Heap) : Prop := ex = .ex 8 ∧ ∃ (ps : List Int) (qs : List Nat) (q : SV),
  St36 B ms n P c0 k qs (fun _ => False) q ps h ∧ ∃ a b c,
  E = e36 B m n F (P + 1) [(11, some (.sc q)), (12, a), (49, some (.sc (.int .i64 (n : Nat)))), (50, some (.sc (.int .i64 (c0 : Nat)))), (78, b), (79, c)]
theorem round36s (B : Heap) (m : SV) (ms : List Int) (n F P c0 k a : Nat) (hs : IsInts B m ms) (hm : Mates ms) (hv : Inv ms) (hf : Fits ms n) (hn : n ≤ 64) (hF : F ≤ 1000) (hk : k ≤ 64) (ha : a < n) (E : Env) (h : Heap) (hI : I36s B m ms n F P c0 k a E h) :
    wA FT HKt b36L4 (E.keep [0, 3, 4, 5, 9, 11, 12, 49, 50, 78]) h (wRound (I36s B m ms n F P c0 k a) (cntV 4 78) (cntV 4 78 E h) (R36s B m ms n F P c0 k)) := by
  obtain ⟨i, ps, qs, q, hi, ⟨hb, T, rfl, hq⟩, hpa, hall, rfl⟩ := hI
  have hn4 := hf.n4
  have hbl := hb.len
  have hPc := hb.num
  have hc0 := hb.root.1
  by_cases hlt : i < 4
  · have hh : 4 * a + i < ms.length := by omega
    obtain ⟨t, hg1, hg2⟩ := hm.get _ hh
    have htN : mateN ms (4 * a + i) = t := by unfold mateN; rw [getD_at hg1]; simp
    obtain ⟨id, off, cap, rfl, hr⟩ := IsInts.at (IsSl.ext hs (RH_ext (ps := ps) T)) hg1
    have hr2 : ∀ {j : Int}, j = ((4 * a + i : Nat) : Int) → readN (RH B ps ++ T) id (off + j.toNat * 1) 1 = some [.int .i64 (t : Int)] := fun hj => by subst hj; rw [Int.toNat_natCast]; exact hr
    have htl : t / 4 < ps.length := by omega
    have hst : Step ms a (t / 4) := ⟨4 * a + i, hh, by omega, by rw [htN]⟩
    by_cases hp : ps.getD (t / 4) 0 = -1
    · have hb2 := hb.push hf hpa hst hp
      have hg := fun k => getD_set (x := (P : Int)) htl k
      have hql : qs.length ≤ k := by have := hb.cnt; omega
      have hrd := fun {j : Int} (hj : j = ((t / 4 : Nat) : Int)) => RH_rd (B := B) T htl hj
      rw [show decide (ps.getD (t / 4) 0 ≠ -1) = false by rw [hp]; rfl] at hrd
      repeat' (first | refine w_seq ?_ | refine w_seqN ?_ | refine w_blk ?_ | refine w_blkN ?_ | refine w_skip ?_ | refine w_ops ?_ | ((refine i_cond ?_); refine w_condT rfl ?_) | ((refine i_nil ?_); first | refine w_end10 rfl rfl rfl rfl rfl rfl rfl rfl rfl rfl ?_ | refine w_end11 rfl rfl rfl rfl rfl rfl rfl rfl rfl rfl rfl ?_ | refine w_end12 rfl rfl rfl rfl rfl rfl rfl rfl rfl rfl rfl rfl ?_) | ((refine i_cons ?_); first | refine k_idxA rfl rfl (by omega) ?_ | refine k_ld rfl (hr2 (by omega)) ?_ | refine k_ld rfl (hrd (by omega)) ?_ | refine k_st rfl rfl (RH_wr (P := P) T htl (by omega)) ?_ | (refine k_push ⟨_, rfl⟩ (Own.rebR hq) rfl rfl (by simp [bigN]; omega) ?_; intro q2 h2 hq2 he2 hf2) | refine k_mv rfl ?_ | refine k_notF rfl ?_ | refine k_add rfl rfl (by omega) ?_ | refine k_mul rfl rfl (by omega) ?_ | refine k_quo rfl rfl (by omega) ?_ | refine k_lssT rfl rfl (by omega) ?_))
      obtain ⟨T2, rfl⟩ := he2
      refine w_roundN ⟨i + 1, ps.set (t / 4) P, qs ++ [t / 4], q2, by omega, ⟨hb2, T2, rfl, ?_⟩, ?_, ?_, rfl⟩ (by simp [cntV, Env.get]; omega)
      · rw [show (t : Int) / 4 = ((t / 4 : Nat) : Int) by omega] at hq2
        rw [List.map_append]; exact hq2
      · rw [hg]; split
        · rfl
        · exact hpa
      · intro j hj
        rw [hg]; split
        · rfl
        · rename_i hne
          rcases Nat.lt_or_ge j i with h1 | h1
          · exact hall j h1
          · have : j = i := by omega
            subst this
            rw [htN] at hne
            exact absurd rfl hne
    · have hP := hb.seen hm hv hf hpa hst hp
      have hrd := fun {j : Int} (hj : j = ((t / 4 : Nat) : Int)) => RH_rd (B := B) T htl hj
      rw [show decide (ps.getD (t / 4) 0 ≠ -1) = true by rw [decide_eq_true_eq]; exact hp] at hrd
      repeat' (first | refine w_seq ?_ | refine w_seqN ?_ | refine w_blk ?_ | refine w_blkN ?_ | refine w_skip ?_ | refine w_ops ?_ | ((refine i_cond ?_); first | refine w_condT rfl ?_ | refine w_condF rfl ?_) | ((refine i_nil ?_); first | refine w_end10 rfl rfl rfl rfl rfl rfl rfl rfl rfl rfl ?_ | refine w_end11 rfl rfl rfl rfl rfl rfl rfl rfl rfl rfl rfl ?_ | refine w_end12 rfl rfl rfl rfl rfl rfl rfl rfl rfl rfl rfl rfl ?_) | ((refine i_cons ?_); first | refine k_idxA rfl rfl (by omega) ?_ | refine k_ld rfl (hr2 (by omega)) ?_ | refine k_ld rfl (hrd (by omega)) ?_ | refine k_mv rfl ?_ | refine k_notT rfl ?_ | refine k_add rfl rfl (by omega) ?_ | refine k_mul rfl rfl (by omega) ?_ | refine k_quo rfl rfl (by omega) ?_ | refine k_lssT rfl rfl (by omega) ?_))
      refine w_roundN ⟨i + 1, ps, qs, q, by omega, ⟨hb, T, rfl, hq⟩, hpa, ?_, rfl⟩ (by simp [cntV, Env.get]; omega)
      intro j hj
      rcases Nat.lt_or_ge j i with h1 | h1
      · exact hall j h1
      · have : j = i := by omega
        subst this
        rw [htN]; exact hP
  · have : i = 4 := by omega
    subst this
    repeat' (first | refine w_seq ?_ | refine w_seqN ?_ | refine w_seqX ?_ | refine w_exit ?_ | refine w_ops ?_ | ((refine i_cond ?_); refine w_condF rfl ?_) | ((refine i_nil ?_); refine w_end11 rfl rfl rfl rfl rfl rfl rfl rfl rfl rfl rfl ?_) | ((refine i_cons ?_); refine k_lssF rfl rfl (by omega) ?_))
    exact w_roundX ⟨rfl, ps, qs, q, ⟨hb.done hpa hall, T, rfl, hq⟩, _, _, _, rfl⟩

/-! ### The stack -/
def I36q (B : Heap) (m : SV) (ms : List Int) (n F P c0 k : Nat) (E : Env) (h : Heap) : Prop := k ≤ 64 ∧ ∃ (ps : List Int) (qs : List Nat) (q : SV),
  St36 B ms n P c0 k qs (fun _ => False) q ps h ∧
  E.keep [0, 3, 4, 5, 9, 11, 49, 50] = e36 B m n F (P + 1) [(11, some (.sc q)), (49, some (.sc (.int .i64 (n : Nat)))), (50, some (.sc (.int .i64 (c0 : Nat))))]
def R36q (B : Heap) (m : SV) (ms : List Int) (n F P c0 : Nat) (ex : Ex) (E : Env) (h : Heap) : Prop := ex = .ex 6 ∧ ∃ (ps : List Int) (T : Heap), Bo ms n ps (P + 1) (c0 + 1) ∧ h = RH B ps ++ T ∧ ∃ a b,
  E = e36 B m n F (P + 1) [(11, a), (49, some (.sc (.int .i64 (n : Nat)))), (50, some (.sc (.int .i64 (c0 : Nat)))), (66, b)]
theorem round36q (B : Heap) (m : SV) (ms : List Int) (n F P c0 : Nat) (hs : IsInts B m ms) (hm : Mates ms) (hv : Inv ms) (hf : Fits ms n) (hn : n ≤ 64) (hF : F ≤ 1000) (k : Nat) (E : Env) (h : Heap) (hI : I36q B m ms n F P c0 k E h) :
    wA FT HKt b36L3 (E.keep [0, 3, 4, 5, 9, 11, 49, 50]) h (wRoundI (I36q B m ms n F P c0) k (R36q B m ms n F P c0)) := by
  obtain ⟨hk, ps, qs, q, ⟨hb, T, rfl, hq⟩, hE⟩ := hI
  rw [hE]
  rcases List.eq_nil_or_concat qs with rfl | ⟨r, a, rfl⟩
  · have hl : lenS false q = some 0 := hq.len
    repeat' (first | refine w_seq ?_ | refine w_seqN ?_ | refine w_seqX ?_ | refine w_exit ?_ | refine w_ops ?_ | ((refine i_cond ?_); refine w_condF rfl ?_) | ((refine i_nil ?_); refine w_end9 rfl rfl rfl rfl rfl rfl rfl rfl rfl ?_) | ((refine i_cons ?_); first | refine k_len rfl hl ?_ | refine k_mv rfl ?_ | refine k_gtrF rfl rfl (by omega) ?_))
    exact w_roundIX ⟨rfl, ps, T, hb.out hm hv, rfl, _, _, rfl⟩
  · rw [List.concat_eq_append] at *
    have hl : lenS false q = some ((r.length + 1 : Nat) : Int) := by have := hq.len; simpa using this
    obtain ⟨k, rfl⟩ : ∃ j, k = j + 1 := ⟨k - 1, by have := hb.cnt; simp at this; omega⟩
    obtain ⟨han, hpa⟩ := hb.qlab a (by simp)
    have hb2 := hb.popL
    have hrk : r.length ≤ 64 := by have := hb2.cnt; omega
    obtain ⟨q2, h1, h2, h3⟩ := Own.pop hq (u := r.length) (by simp)
    have h1' : slice1 0 (((r.length + 1 : Nat) : Int) - 1).toNat q = some q2 := by
      rw [show (((r.length + 1 : Nat) : Int) - 1).toNat = r.length by omega]; exact h1
    have h2' : Own (RH B ps) (RH B ps ++ T) q2 (r.map fun x => .int .i64 (x : Nat)) := by
      have : ((r ++ [a]).map fun (x : Nat) => SV.int .i64 (x : Nat)).take r.length = r.map fun x => .int .i64 (x : Nat) := by simp
      rw [this] at h2; exact h2
    obtain ⟨id, cap, rfl, hr⟩ := hq.rd (i := r.length) (v := .int .i64 (a : Nat)) (by simp)
    have hr' : ∀ {j : Int}, j = (r.length : Nat) → readN (RH B ps ++ T) id (0 + j.toNat * 1) 1 = some [.int .i64 (a : Nat)] := fun hj => by subst hj; rw [Int.toNat_natCast]; exact hr
    repeat' (first | refine w_seq ?_ | refine w_seqN ?_ | refine w_blk ?_ | refine w_skip ?_ | refine w_ops ?_ | ((refine i_cond ?_); refine w_condT rfl ?_) | ((refine i_nil ?_); first | refine w_end9 rfl rfl rfl rfl rfl rfl rfl rfl rfl ?_ | refine w_end10 rfl rfl rfl rfl rfl rfl rfl rfl rfl rfl ?_) | ((refine i_cons ?_); first | refine k_len rfl hl ?_ | refine k_idxA rfl rfl (by simp only [List.length_map, List.length_append, List.length_singleton]; omega) ?_ | refine k_ld rfl (hr' (by omega)) ?_ | refine k_to rfl hl rfl (by omega) h1' ?_ | refine k_mv rfl ?_ | refine k_sub rfl rfl (by omega) ?_ | refine k_gtrT rfl rfl (by omega) ?_))
    refine w_loop (I36s B m ms n F P c0 k a) (cntV 4 78) (R36s B m ms n F P c0 k) ⟨0, ps, r, q2, by omega, ⟨hb2, T, rfl, h2'⟩, hpa, fun j hj => by omega, rfl⟩ (round36s B m ms n F P c0 k a hs hm hv hf hn hF (by omega) han) ?_
    rintro ex E' h' ⟨rfl, ps2, qs2, q3, ⟨hb3, T3, rfl, hq3⟩, x, y, z, rfl⟩
    repeat' (first | refine w_blkN ?_ | refine w_blkX ?_)
    exact w_roundIN (Nat.lt_succ_self k) ⟨by omega, ps2, qs2, q3, ⟨hb3, T3, rfl, hq3⟩, rfl⟩

/-! ### All crossings -/
def I36d (B : Heap) (m : SV) (ms : List Int) (n F : Nat) (E : Env) (h : Heap) : Prop := ∃ (c P : Nat) (ps : List Int) (T : Heap), c ≤ n ∧ Bo ms n ps P c ∧ h = RH B ps ++ T ∧
  E = e36 B m n F P [(49, some (.sc (.int .i64 (n : Nat)))), (50, some (.sc (.int .i64 (c : Nat))))]
def R36d (B : Heap) (m : SV) (ms : List Int) (n F : Nat) (ex : Ex) (E : Env) (h : Heap) : Prop := ex = .ex 4 ∧ ∃ (P : Nat) (ps : List Int) (T : Heap), Bo ms n ps P n ∧ h = RH B ps ++ T ∧ ∃ a b c,
  E = e36 B m n F P [(49, a), (50, b), (51, c)]
theorem round36d (B : Heap) (m : SV) (ms : List Int) (n F : Nat) (hs : IsInts B m ms) (hm : Mates ms) (hv : Inv ms) (hf : Fits ms n) (hn : n ≤ 64) (hF : F ≤ 1000) (E : Env) (h : Heap) (hI : I36d B m ms n F E h) :
    wA FT HKt b36L2 (E.keep [0, 3, 4, 5, 9, 49, 50]) h (wRound (I36d B m ms n F) (cntV n 50) (cntV n 50 E h) (R36d B m ms n F)) := by
  obtain ⟨c, P, ps, T, hc, hb, rfl, rfl⟩ := hI
  have hbl := hb.len
  have hPc := hb.num
  by_cases hlt : c < n
  · have hcl : c < ps.length := by omega
    have hrd := fun {j : Int} (hj : j = ((c : Nat) : Int)) => RH_rd (B := B) T hcl hj
    by_cases hp : ps.getD c 0 = -1
    · have hb2 := hb.start hp hlt
      have hu : unl ps ≤ 64 := Nat.le_trans List.countP_le_length (by omega)
      rw [show decide (ps.getD c 0 ≠ -1) = false by rw [hp]; rfl] at hrd
      repeat' (first | refine w_seq ?_ | refine w_seqN ?_ | refine w_blk ?_ | refine w_skip ?_ | refine w_ops ?_ | ((refine i_cond ?_); first | refine w_condT rfl ?_ | refine w_condF rfl ?_) | ((refine i_nil ?_); first | refine w_end8 rfl rfl rfl rfl rfl rfl rfl rfl ?_ | refine w_end9 rfl rfl rfl rfl rfl rfl rfl rfl rfl ?_) | ((refine i_cons ?_); first | refine k_idxA rfl rfl (by omega) ?_ | refine k_ld rfl (hrd (by omega)) ?_ | refine k_st rfl rfl (RH_wr (P := P) T hcl (by omega)) ?_ | refine k_mv rfl ?_ | refine k_add rfl rfl (by omega) ?_ | refine k_lssT rfl rfl (by omega) ?_ | refine k_ok rfl rfl ?_))
      refine w_loopI (I36q B m ms n F P c) (unl ps) (R36q B m ms n F P c) ⟨hu, ps.set c P, [c], _, ⟨hb2, T ++ [.cells [.int .i64 (c : Nat)] true 1], by rw [← List.append_assoc]; rfl, ?_⟩, rfl⟩ (round36q B m ms n F P c hs hm hv hf hn hF) ?_
      · refine .inr ⟨_, some 1, [.int .i64 (c : Nat)], rfl, by simp, ?_, rfl, by simp [Room]⟩
        rw [List.getElem?_append_right (Nat.le_refl _)]
        simp; rfl
      rintro ex E' h' ⟨rfl, ps2, T2, hb3, rfl, x, y, rfl⟩
      repeat' (first | refine w_seqN ?_ | refine w_blkN ?_ | refine w_blkX ?_ | refine w_ops ?_ | ((refine i_nil ?_); refine w_end7 rfl rfl rfl rfl rfl rfl rfl ?_) | ((refine i_cons ?_); first | refine k_mv rfl ?_ | refine k_add rfl rfl (by omega) ?_))
      exact w_roundN ⟨c + 1, P + 1, ps2, T2, by omega, hb3, rfl, rfl⟩ (by simp [cntV, Env.get]; omega)
    · rw [show decide (ps.getD c 0 ≠ -1) = true by rw [decide_eq_true_eq]; exact hp] at hrd
      repeat' (first | refine w_seq ?_ | refine w_seqN ?_ | refine w_seqX ?_ | refine w_blk ?_ | refine w_blkX ?_ | refine w_skip ?_ | refine w_exit ?_ | refine w_ops ?_ | ((refine i_cond ?_); refine w_condT rfl ?_) | ((refine i_nil ?_); first | refine w_end7 rfl rfl rfl rfl rfl rfl rfl ?_ | refine w_end8 rfl rfl rfl rfl rfl rfl rfl rfl ?_ | refine w_end9 rfl rfl rfl rfl rfl rfl rfl rfl rfl ?_) | ((refine i_cons ?_); first | refine k_idxA rfl rfl (by omega) ?_ | refine k_ld rfl (hrd (by omega)) ?_ | refine k_mv rfl ?_ | refine k_add rfl rfl (by omega) ?_ | refine k_lssT rfl rfl (by omega) ?_))
      exact w_roundN ⟨c + 1, P, ps, T, by omega, hb.skip hp, rfl, rfl⟩ (by simp [cntV, Env.get]; omega)
  · have : c = n := by omega
    subst this
    repeat' (first | refine w_seq ?_ | refine w_seqN ?_ | refine w_seqX ?_ | refine w_exit ?_ | refine w_ops ?_ | ((refine i_cond ?_); refine w_condF rfl ?_) | ((refine i_nil ?_); refine w_end8 rfl rfl rfl rfl rfl rfl rfl rfl ?_) | ((refine i_cons ?_); refine k_lssF rfl rfl (by omega) ?_))
    exact w_roundX ⟨rfl, P, ps, T, hb, rfl, _, _, _, rfl⟩

section
variable {FT : FuncId → Option AFun} {HK : FuncId → Option Hook} {E : Env} {h : Heap} {K : Env → Heap → Prop} {d : Option Nat} {r : List AOp} {x y : AO} {m : Int}
theorem k_quo2 (hx : evS E x = some (.int .i64 m)) (hy : evS E y = some (.int .i64 2)) (hr : -1000000 ≤ m ∧ m ≤ 1000000) (hw : wOps FT HK r (bindE d (some (.sc (.int .i64 (m.tdiv 2)))) E) h K) : wOps FT HK (⟨d, .bin .quo x y, none⟩ :: r) E h K := by
  have h2 : -1000000 ≤ m.tdiv 2 ∧ m.tdiv 2 ≤ 1000000 := by
    rcases Int.le_total 0 m with h | h
    · rw [Int.tdiv_eq_ediv_of_nonneg h]; omega
    · obtain ⟨k, rfl⟩ : ∃ k, m = -k := ⟨-m, by omega⟩
      rw [Int.neg_tdiv, Int.tdiv_eq_ediv_of_nonneg (by omega)]; omega
  refine op_wrap (n := m.tdiv 2) rfl rfl ?_ (by omega) hw
  simp only [step1, hx, hy, Option.bind_some, binS, isShift, binI]
  rw [if_neg (by decide), if_pos trivial, if_neg (by omega)]; rfl
end
theorem call36 (h0 : Heap) (m : SV) (ms : List Int) (n : Nat) (hs : IsInts h0 m ms) (hm : Mates ms) (hv : Inv ms) (hf : Fits ms n) (hn : n ≤ 64) :
    ∃ v h', Cal FT HKt 36 [.sc m] h0 v h' ∧ Ext h0 h' ∧ ∃ (P : Nat) (ps : List Int), Parts ms n ps P ∧ v = .sc (.int .i64 ((2 * (P : Int) + n - (leasts ms ms.length).length).tdiv 2)) := by
  refine Cal.of (F := a36) rfl rfl rfl ?_
  have hml : lenS false m = some (ms.length : Int) := IsSl.len hs
  have h4 := hf.n4
  have hq : (ms.length : Int) / 4 = (n : Nat) := by omega
  have hF := leasts_le ms ms.length
  repeat' (first | refine w_seq ?_ | refine w_seqN ?_ | refine w_blk ?_ | refine w_ops ?_ | ((refine i_nil ?_); first | refine w_end1 rfl ?_ | refine w_end2 rfl rfl ?_ | refine w_end4 rfl rfl rfl rfl ?_ | refine w_end5 rfl rfl rfl rfl rfl ?_ | refine w_end7 rfl rfl rfl rfl rfl rfl rfl ?_) | ((refine i_cons ?_); first | refine k_len rfl hml ?_ | refine k_mk0 rfl rfl (by simp only [bigN]; omega) ?_ | (refine k_quo rfl rfl (by omega) ?_; rw [hq]) | refine k_mv rfl ?_))
  have hsn : SeenG ms 0 (List.replicate ms.length false) := ⟨by simp, fun g hg => ⟨fun h => by simp [List.getD, hg] at h, fun ⟨a, ha, _⟩ => absurd ha (by omega)⟩⟩
  refine w_loop (I36c h0 m ms n) (cntV ms.length 23) (R36c h0 m ms n) ⟨0, List.replicate ms.length false, by omega, hsn, by simp [SN], rfl⟩ (round36c h0 m ms n hs hm hv) ?_
  rintro ex E' h' ⟨rfl, sn, rfl, x, y, z, w, rfl⟩
  have hs2 : IsInts (h0 ++ [SN sn]) m ms := IsSl.ext hs ⟨_, rfl⟩
  repeat' (first | refine w_seq ?_ | refine w_seqN ?_ | refine w_blk ?_ | refine w_blkX ?_ | refine w_ops ?_ | ((refine i_nil ?_); first | refine w_end5 rfl rfl rfl rfl rfl ?_ | refine w_end7 rfl rfl rfl rfl rfl rfl rfl ?_) | ((refine i_cons ?_); first | refine k_mk0 rfl rfl (by simp only [bigN]; omega) ?_ | refine k_mv rfl ?_))
  refine w_loop (I36d (h0 ++ [SN sn]) m ms n (leasts ms ms.length).length) (cntV n 50) (R36d (h0 ++ [SN sn]) m ms n (leasts ms ms.length).length) ⟨0, 0, List.replicate n (-1), [], by omega, Bo.init hf, by simp [RH, SN, rb], rfl⟩ (round36d (h0 ++ [SN sn]) m ms n _ hs2 hm hv hf hn (by omega)) ?_
  rintro ex E' h' ⟨rfl, P, ps, T, hb, rfl, a, b, c, rfl⟩
  have hPn := hb.num
  repeat' (first | refine w_seq ?_ | refine w_seqN ?_ | refine w_blkX ?_ | refine w_ret ?_ | refine w_ops ?_ | ((refine i_nil ?_); refine w_end1 rfl ?_) | ((refine i_cons ?_); first | refine k_quo2 rfl rfl (by omega) ?_ | refine k_mv rfl ?_ | refine k_add rfl rfl (by omega) ?_ | refine k_sub rfl rfl (by omega) ?_ | refine k_mul rfl rfl (by omega) ?_))
  exact ⟨.inr rfl, Ext.trans (⟨_, rfl⟩ : Ext h0 (h0 ++ [SN sn])) (RH_ext T), P, ps, hb.parts, rfl⟩
end Go.Proofs.YtleoalcbgpjieaaDoor
