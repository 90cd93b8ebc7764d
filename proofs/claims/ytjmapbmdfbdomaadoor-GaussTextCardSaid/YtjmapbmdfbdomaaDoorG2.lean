/- gauss.Valid: its contract. -/
import Derived.Test.YtjmapbmdfbdomaaDoorG1
namespace Go.Proofs.YtjmapbmdfbdomaaDoor
open Go.Ab
set_option linter.unusedVariables false
set_option linter.unusedSimpArgs false
set_option maxRecDepth 20000
attribute [local irreducible] wOps wA wSeq wBlk wRound wOpsD

theorem flat_snoc {C : List (List Vis)} {i : Nat} {vs : List Vis} (h : C[i]? = some vs) : (C.take (i + 1)).flatten = (C.take i).flatten ++ vs := by
  rw [take_snoc h]; simp
theorem flat_le {C : List (List Vis)} (i : Nat) : (C.take i).flatten.length ≤ C.flatten.length := by
  conv => rhs; rw [← List.take_append_drop i C, List.flatten_append, List.length_append]
  omega
def I15c (h0 : Heap) (X so su : SV) (g : GC) (E : Env) (h : Heap) : Prop := ∃ i : Nat, i ≤ g.C.length ∧ St15 h0 h so su g.S.length (g.C.take i).flatten ∧ (∀ c ∈ g.C.take i, c ≠ []) ∧
  E = [(3, some (.sc (.int .i64 (g.S.length : Nat)))), (6, some (.sc so)), (7, some (.sc su)), (8, some (.sc (.int .i64 ((g.C.take i).flatten.length : Nat)))), (48, some (.sc X)), (49, some (.sc (.int .i64 (g.C.length : Nat)))), (50, some (.sc (.int .i64 (i : Nat))))]
def R15c (h0 : Heap) (so su : SV) (g : GC) (ex : Ex) (E : Env) (h : Heap) : Prop := Ext h0 h ∧ match ex with
  | .rt => E = [(2, some (.sc (.bool false)))] ∧ ¬ VG g
  | .ex z => z = 2 ∧ St15 h0 h so su g.S.length g.C.flatten ∧ (∀ c ∈ g.C, c ≠ []) ∧ ∃ a b c d e f,
      E = [(3, some (.sc (.int .i64 (g.S.length : Nat)))), (6, a), (7, b), (8, some (.sc (.int .i64 (g.C.flatten.length : Nat)))), (48, c), (49, d), (50, e), (51, f)]
  | .nm => False
set_option maxHeartbeats 4000000 in
theorem round15c (h0 : Heap) (X so su : SV) (g : GC) (hf : Fits g) (hX : IsComps h0 X g.C) (E : Env) (h : Heap) (hI : I15c h0 X so su g E h) :
    wA FT HKt b15L1 (E.keep [3, 6, 7, 8, 48, 49, 50]) h (wRound (I15c h0 X so su g) (cnt g.C.length 50) (cnt g.C.length 50 E h) (R15c h0 so su g)) := by
  obtain ⟨i, hi, s, hne, rfl⟩ := hI
  have hcl := hf.c
  by_cases hlt : i < g.C.length
  · obtain ⟨vs, hx⟩ : ∃ vs, g.C[i]? = some vs := ⟨_, List.getElem?_eq_getElem hlt⟩
    obtain ⟨id, off, cap, t, e9, hrd, it⟩ := (hX.ext s.e).at hx
    have it0 : ∃ ss, ss[i]? = some t ∧ IsSl h0 X 1 ss.length ss → True := ⟨[], fun _ => trivial⟩
    have lt := it.len
    have eF := flat_snoc hx
    have hvm : vs ∈ g.C := List.mem_of_getElem? hx
    by_cases hv0 : vs = []
    · have hno : ¬ VG g := fun hg => hg.2.2.2.1 vs hvm hv0
      subst hv0
      have lt0 : lenS false t = some (0 : Int) := lt
      subst e9
      repeat' (first | refine w_seq ?_ | refine w_seqN ?_ | refine w_seqR ?_ | refine w_blk ?_ | refine w_blkR ?_ | refine w_skip ?_ | refine w_ret ?_ | refine w_ops ?_ | ((refine i_cond ?_); refine w_condT rfl ?_) | ((refine i_nil ?_); first | refine w_end1 rfl ?_ | refine w_end8 rfl rfl rfl rfl rfl rfl rfl rfl ?_ | refine w_end9 rfl rfl rfl rfl rfl rfl rfl rfl rfl ?_) | ((refine i_cons ?_); first | refine k_idxA rfl rfl (by omega) ?_ | refine k_ld rfl hrd ?_ | refine k_len rfl lt0 ?_ | refine k_mv rfl ?_ | refine k_lssT rfl rfl (by omega) ?_ | refine k_eqlT rfl rfl (by omega) ?_))
      exact w_roundR ⟨s.e, rfl, hno⟩
    · have hpos : 0 < vs.length := List.length_pos_iff.2 hv0
      have hne' : ∀ c ∈ g.C.take (i + 1), c ≠ [] := fun c hc => by
        rw [take_snoc hx] at hc
        rcases List.mem_append.1 hc with hc | hc
        · exact hne c hc
        · simp only [List.mem_singleton] at hc; subst hc; exact hv0
      have hh : Ext h h := Ext.refl h
      subst e9
      repeat' (first | refine w_seq ?_ | refine w_seqN ?_ | refine w_blk ?_ | refine w_skip ?_ | refine w_ops ?_ | ((refine i_cond ?_); first | refine w_condT rfl ?_ | refine w_condF rfl ?_) | ((refine i_nil ?_); first | refine w_end8 rfl rfl rfl rfl rfl rfl rfl rfl ?_ | refine w_end9 rfl rfl rfl rfl rfl rfl rfl rfl rfl ?_ | refine w_end10 rfl rfl rfl rfl rfl rfl rfl rfl rfl rfl ?_) | ((refine i_cons ?_); first | refine k_idxA rfl rfl (by omega) ?_ | refine k_ld rfl hrd ?_ | refine k_len rfl lt ?_ | refine k_mv rfl ?_ | refine k_lssT rfl rfl (by omega) ?_ | refine k_eqlF rfl rfl (by omega) ?_))
      have s0 : St15 h0 h so su g.S.length ((g.C.take i).flatten ++ vs.take 0) := by simpa using s
      refine w_loop (I15v h0 (.slc id off g.C.length cap) t so su g i vs) (cnt vs.length 59) (R15v h0 (.slc id off g.C.length cap) so su g i vs) ⟨0, Nat.zero_le _, s0, by simp⟩ (round15v h0 (.slc id off g.C.length cap) t so su g hf i vs hx ?_) ?_
      · obtain ⟨id2, off2, cap2, t2, e2, r2, it2⟩ := hX.at hx
        simp only [SV.slc.injEq, true_and] at e2
        obtain ⟨rfl, rfl, rfl⟩ := e2
        have r3 := readN_ext s.e r2
        rw [r3] at hrd
        simp only [Option.some.injEq, List.cons.injEq, and_true] at hrd
        subst hrd
        exact it2
      rintro ex E' h' ⟨he, hR⟩
      cases ex with
      | nm => exact hR.elim
      | rt =>
        obtain ⟨rfl, hno⟩ := hR
        repeat' (first | refine w_seqR ?_ | refine w_blkR ?_)
        exact w_roundR ⟨he, rfl, hno⟩
      | ex z =>
        obtain ⟨rfl, s1, a, b, c, d, rfl⟩ := hR
        rw [← eF] at s1
        repeat' (first | refine w_seqN ?_ | refine w_blkN ?_ | refine w_blkX ?_ | refine w_ops ?_ | ((refine i_nil ?_); refine w_end7 rfl rfl rfl rfl rfl rfl rfl ?_) | ((refine i_cons ?_); first | refine k_mv rfl ?_ | refine k_add rfl rfl (by omega) ?_))
        exact w_roundN ⟨i + 1, by omega, s1, hne', by rw [eF]; rfl⟩ (by simp [cnt, Env.get]; omega)
  · have hie : i = g.C.length := by omega
    subst hie
    rw [List.take_length] at s hne
    repeat' (first | refine w_seq ?_ | refine w_seqN ?_ | refine w_seqX ?_ | refine w_exit ?_ | refine w_ops ?_ | ((refine i_cond ?_); refine w_condF rfl ?_) | ((refine i_nil ?_); refine w_end8 rfl rfl rfl rfl rfl rfl rfl rfl ?_) | ((refine i_cons ?_); refine k_lssF rfl rfl (by omega) ?_))
    exact w_roundX ⟨s.e, rfl, s, hne, _, _, _, _, _, _, by rw [List.take_length]⟩

def I15s (h0 : Heap) (q : SV) (Sg : SV) (g : GC) (E : Env) (h : Heap) : Prop := ∃ i : Nat, i ≤ g.S.length ∧ h = h0 ∧ (∀ s ∈ g.S.take i, s = 1 ∨ s = -1) ∧
  E = [(1, some (.sc q)), (3, some (.sc (.int .i64 (g.S.length : Nat)))), (30, some (.sc Sg)), (31, some (.sc (.int .i64 (g.S.length : Nat)))), (32, some (.sc (.int .i64 (i : Nat))))]
def R15s (h0 : Heap) (q : SV) (g : GC) (ex : Ex) (E : Env) (h : Heap) : Prop := h = h0 ∧ match ex with
  | .rt => E = [(2, some (.sc (.bool false)))] ∧ ¬ VG g
  | .ex z => z = 0 ∧ (∀ s ∈ g.S, s = 1 ∨ s = -1) ∧ ∃ a b c d, E = [(1, some (.sc q)), (3, some (.sc (.int .i64 (g.S.length : Nat)))), (30, a), (31, b), (32, c), (33, d)]
  | .nm => False
theorem round15s (h0 : Heap) (q Sg : SV) (g : GC) (hf : Fits g) (hS : IsInts h0 Sg g.S) (E : Env) (h : Heap) (hI : I15s h0 q Sg g E h) :
    wA FT HKt b15L0 (E.keep [1, 3, 30, 31, 32]) h (wRound (I15s h0 q Sg g) (cnt g.S.length 32) (cnt g.S.length 32 E h) (R15s h0 q g)) := by
  obtain ⟨i, hi, rfl, hne, rfl⟩ := hI
  have hsl := hf.s
  by_cases hlt : i < g.S.length
  · obtain ⟨x, hx⟩ : ∃ x, g.S[i]? = some x := ⟨_, List.getElem?_eq_getElem hlt⟩
    have hm := List.mem_of_getElem? hx
    obtain ⟨id, off, cap, rfl, hrd⟩ := IsInts.at hS hx
    by_cases h1 : x = 1
    · have hne' : ∀ s ∈ g.S.take (i + 1), s = 1 ∨ s = -1 := fun s hs => by
        rw [take_snoc hx] at hs
        rcases List.mem_append.1 hs with hs | hs
        · exact hne s hs
        · simp only [List.mem_singleton] at hs; subst hs; exact .inl h1
      repeat' (first | refine w_seq ?_ | refine w_seqN ?_ | refine w_blk ?_ | refine w_blkN ?_ | refine w_skip ?_ | refine w_ops ?_ | ((refine i_cond ?_); first | refine w_condT rfl ?_ | refine w_condF rfl ?_) | ((refine i_nil ?_); first | refine w_end5 rfl rfl rfl rfl rfl ?_ | refine w_end6 rfl rfl rfl rfl rfl rfl ?_) | ((refine i_cons ?_); first | refine k_idxA rfl rfl (by omega) ?_ | refine k_ld rfl hrd ?_ | refine k_skip rfl ?_ | refine k_mv rfl ?_ | refine k_pickF rfl rfl ?_ | refine k_add rfl rfl (by omega) ?_ | refine k_lssT rfl rfl (by omega) ?_ | refine k_neqF rfl rfl (by omega) ?_))
      exact w_roundN ⟨i + 1, by omega, rfl, hne', rfl⟩ (by simp [cnt, Env.get]; omega)
    · by_cases h2 : x = -1
      · have hne' : ∀ s ∈ g.S.take (i + 1), s = 1 ∨ s = -1 := fun s hs => by
          rw [take_snoc hx] at hs
          rcases List.mem_append.1 hs with hs | hs
          · exact hne s hs
          · simp only [List.mem_singleton] at hs; subst hs; exact .inr h2
        repeat' (first | refine w_seq ?_ | refine w_seqN ?_ | refine w_blk ?_ | refine w_blkN ?_ | refine w_skip ?_ | refine w_ops ?_ | ((refine i_cond ?_); first | refine w_condT rfl ?_ | refine w_condF rfl ?_) | ((refine i_nil ?_); first | refine w_end5 rfl rfl rfl rfl rfl ?_ | refine w_end6 rfl rfl rfl rfl rfl rfl ?_) | ((refine i_cons ?_); first | refine k_idxA rfl rfl (by omega) ?_ | refine k_ld rfl hrd ?_ | refine k_want rfl ?_ | refine k_mv rfl ?_ | refine k_pickT rfl rfl ?_ | refine k_add rfl rfl (by omega) ?_ | refine k_lssT rfl rfl (by omega) ?_ | refine k_neqT rfl rfl (by omega) ?_ | refine k_neqF rfl rfl (by omega) ?_))
        exact w_roundN ⟨i + 1, by omega, rfl, hne', rfl⟩ (by simp [cnt, Env.get]; omega)
      · have hno : ¬ VG g := fun hg => by rcases hg.2.2.1 x hm with h | h; exact h1 h; exact h2 h
        repeat' (first | refine w_seq ?_ | refine w_seqN ?_ | refine w_seqR ?_ | refine w_blk ?_ | refine w_blkR ?_ | refine w_skip ?_ | refine w_ret ?_ | refine w_ops ?_ | ((refine i_cond ?_); refine w_condT rfl ?_) | ((refine i_nil ?_); first | refine w_end1 rfl ?_ | refine w_end6 rfl rfl rfl rfl rfl rfl ?_) | ((refine i_cons ?_); first | refine k_idxA rfl rfl (by omega) ?_ | refine k_ld rfl hrd ?_ | refine k_want rfl ?_ | refine k_mv rfl ?_ | refine k_pickT rfl rfl ?_ | refine k_lssT rfl rfl (by omega) ?_ | refine k_neqT rfl rfl (by omega) ?_))
        exact w_roundR ⟨rfl, rfl, hno⟩
  · rw [List.take_of_length_le (by omega)] at hne
    repeat' (first | refine w_seq ?_ | refine w_seqN ?_ | refine w_seqX ?_ | refine w_exit ?_ | refine w_ops ?_ | ((refine i_cond ?_); refine w_condF rfl ?_) | ((refine i_nil ?_); refine w_end6 rfl rfl rfl rfl rfl rfl ?_) | ((refine i_cons ?_); refine k_lssF rfl rfl (by omega) ?_))
    exact w_roundX ⟨rfl, rfl, hne, _, _, _, _, rfl⟩

set_option maxHeartbeats 4000000 in
theorem call15 (h0 : Heap) (X Sg : SV) (g : GC) (hf : Fits g) (hc : IsCode h0 X Sg g) : ∃ v h', Cal FT HKt 15 [.agg [X, Sg, .int .i64 g.L]] h0 v h' ∧ Ext h0 h' ∧ ∃ b, v = .sc (.bool b) ∧ (b = true ↔ VG g) := by
  refine Cal.of (F := a15) rfl rfl rfl ?_
  have hsl := hf.s
  have hlr := hf.l
  have hS := IsSl.len hc.s
  have hX := hc.x.len
  have no : ∀ {h' : Heap}, Ext h0 h' → ¬ VG g → Ext h0 h' ∧ ∃ b, (AV.sc (SV.bool false)) = .sc (.bool b) ∧ (b = true ↔ VG g) := fun he hno => ⟨he, false, rfl, by simpa using hno⟩
  by_cases h1 : 64 < g.S.length
  · have hno : ¬ VG g := fun hg => by have := hg.1; omega
    repeat' (first | refine w_seq ?_ | refine w_seqN ?_ | refine w_seqR ?_ | refine w_ret ?_ | refine w_ops ?_ | ((refine i_cond ?_); refine w_condT rfl ?_) | ((refine i_nil ?_); first | refine w_end1 rfl ?_ | refine w_end2 rfl rfl ?_ | refine w_end3 rfl rfl rfl ?_) | ((refine i_cons ?_); first | (refine k_box rfl rfl ?_; intro h1 e1 l1 b1) | refine k_fldA rfl ?_ | refine k_ldb rfl b1 rfl ?_ | refine k_len rfl hS ?_ | refine k_skip rfl ?_ | refine k_mv rfl ?_ | refine k_pickT rfl rfl ?_ | refine k_gtrT rfl rfl (by omega) ?_))
    exact ⟨.inr rfl, no e1 hno⟩
  by_cases h2 : g.L < 0
  · have hno : ¬ VG g := fun hg => by have := hg.2.1; omega
    repeat' (first | refine w_seq ?_ | refine w_seqN ?_ | refine w_seqR ?_ | refine w_ret ?_ | refine w_ops ?_ | ((refine i_cond ?_); refine w_condT rfl ?_) | ((refine i_nil ?_); first | refine w_end1 rfl ?_ | refine w_end2 rfl rfl ?_ | refine w_end3 rfl rfl rfl ?_) | ((refine i_cons ?_); first | (refine k_box rfl rfl ?_; intro h1 e1 l1 b1) | refine k_fldA rfl ?_ | refine k_ldb rfl b1 rfl ?_ | refine k_len rfl hS ?_ | refine k_skip rfl ?_ | refine k_want rfl ?_ | refine k_mv rfl ?_ | refine k_pickT rfl rfl ?_ | refine k_pickF rfl rfl ?_ | refine k_lssT rfl rfl (by omega) ?_ | refine k_gtrF rfl rfl (by omega) ?_))
    exact ⟨.inr rfl, no e1 hno⟩
  by_cases h3 : 64 < g.L
  · have hno : ¬ VG g := fun hg => by have := hg.2.1; omega
    repeat' (first | refine w_seq ?_ | refine w_seqN ?_ | refine w_seqR ?_ | refine w_ret ?_ | refine w_ops ?_ | ((refine i_cond ?_); refine w_condT rfl ?_) | ((refine i_nil ?_); first | refine w_end1 rfl ?_ | refine w_end2 rfl rfl ?_ | refine w_end3 rfl rfl rfl ?_) | ((refine i_cons ?_); first | (refine k_box rfl rfl ?_; intro h1 e1 l1 b1) | refine k_fldA rfl ?_ | refine k_ldb rfl b1 rfl ?_ | refine k_len rfl hS ?_ | refine k_want rfl ?_ | refine k_mv rfl ?_ | refine k_pickF rfl rfl ?_ | refine k_lssF rfl rfl (by omega) ?_ | refine k_gtrT rfl rfl (by omega) ?_ | refine k_gtrF rfl rfl (by omega) ?_))
    exact ⟨.inr rfl, no e1 hno⟩
  repeat' (first | refine w_seq ?_ | refine w_seqN ?_ | refine w_blk ?_ | refine w_skip ?_ | refine w_ops ?_ | ((refine i_cond ?_); refine w_condF rfl ?_) | ((refine i_nil ?_); first | refine w_end1 rfl ?_ | refine w_end2 rfl rfl ?_ | refine w_end3 rfl rfl rfl ?_ | refine w_end5 rfl rfl rfl rfl rfl ?_) | ((refine i_cons ?_); first | (refine k_box rfl rfl ?_; intro h1 e1 l1 b1) | refine k_fldA rfl ?_ | refine k_ldb rfl b1 rfl ?_ | refine k_len rfl hS ?_ | refine k_want rfl ?_ | refine k_mv rfl ?_ | refine k_pickF rfl rfl ?_ | refine k_lssF rfl rfl (by omega) ?_ | refine k_gtrF rfl rfl (by omega) ?_))
  refine w_loop (I15s h1 _ Sg g) (cnt g.S.length 32) (R15s h1 _ g) ⟨0, Nat.zero_le _, rfl, by simp, rfl⟩ (round15s h1 _ Sg g hf (IsSl.ext hc.s e1)) ?_
  rintro ex E' h' ⟨rfl, hR⟩
  cases ex with
  | nm => exact hR.elim
  | rt =>
    obtain ⟨rfl, hno⟩ := hR
    repeat' (first | refine w_seqR ?_ | refine w_blkR ?_)
    exact ⟨.inr rfl, no e1 hno⟩
  | ex z =>
    obtain ⟨rfl, hsg, a, b, c, d, rfl⟩ := hR
    repeat' (first | refine w_seq ?_ | refine w_seqN ?_ | refine w_blk ?_ | refine w_blkX ?_ | refine w_ops ?_ | ((refine i_nil ?_); first | refine w_end3 rfl rfl rfl ?_ | refine w_end4 rfl rfl rfl rfl ?_ | refine w_end5 rfl rfl rfl rfl rfl ?_ | refine w_end7 rfl rfl rfl rfl rfl rfl rfl ?_) | ((refine i_cons ?_); first | (refine k_mkO (Ext.refl h') rfl rfl (by simp only [bigN]; omega) ?_; intro so h2 o2 e2 x2 l2) | (refine k_mkO x2 rfl rfl (by simp only [bigN]; omega) ?_; intro su h3 o3 e3 x3 l3; have b3 := b1.ext x3) | refine k_fldA rfl ?_ | refine k_ldb rfl b3 rfl ?_ | refine k_len rfl hX ?_ | refine k_mv rfl ?_))
    rw [Int.toNat_natCast] at o2 o3
    have s0 : St15 h' h3 so su g.S.length (g.C.take 0).flatten := ⟨x3, ⟨_, o2.ext e3, SB.new _ _⟩, ⟨_, o3.weaken (Nat.le_of_lt l2), SB.new _ _⟩, (apart_old o3 o2.sl).symm, by simp, by simp⟩
    refine w_loop (I15c h' X so su g) (cnt g.C.length 50) (R15c h' so su g) ⟨0, Nat.zero_le _, s0, by simp, rfl⟩ (round15c h' X so su g hf (hc.x.ext e1)) ?_
    rintro ex E' h4 ⟨he, hR⟩
    cases ex with
    | nm => exact hR.elim
    | rt =>
      obtain ⟨rfl, hno⟩ := hR
      repeat' (first | refine w_seqR ?_ | refine w_blkR ?_)
      exact ⟨.inr rfl, no (e1.trans he) hno⟩
    | ex z =>
      obtain ⟨rfl, s4, hne, a, b, c, d, e, f, rfl⟩ := hR
      by_cases hn : g.C.flatten.length = 2 * g.S.length
      · have hyes : VG g := ⟨by omega, by omega, hsg, hne, s4.rg, s4.nd, hn⟩
        repeat' (first | refine w_seq ?_ | refine w_seqN ?_ | refine w_blkX ?_ | refine w_ret ?_ | refine w_ops ?_ | ((refine i_nil ?_); refine w_end1 rfl ?_) | ((refine i_cons ?_); first | refine k_mv rfl ?_ | refine k_mul rfl rfl (by omega) ?_ | refine k_eqlT rfl rfl (by omega) ?_))
        exact ⟨.inr rfl, e1.trans he, true, rfl, by simpa using hyes⟩
      · have hno : ¬ VG g := fun hg => hn hg.2.2.2.2.2.2
        have hfv := hf.v
        repeat' (first | refine w_seq ?_ | refine w_seqN ?_ | refine w_blkX ?_ | refine w_ret ?_ | refine w_ops ?_ | ((refine i_nil ?_); refine w_end1 rfl ?_) | ((refine i_cons ?_); first | refine k_mv rfl ?_ | refine k_mul rfl rfl (by omega) ?_ | refine k_eqlF rfl rfl (by omega) ?_))
        exact ⟨.inr rfl, no (e1.trans he) hno⟩
theorem valT (h : Heap) (X Sg : SV) (g : GC) (hf : Fits g) (hc : IsCode h X Sg g) (hg : VG g) : ∃ v h', Cal FT HKt 15 [.agg [X, Sg, .int .i64 g.L]] h v h' ∧ Ext h h' ∧ v = .sc (.bool true) := by
  obtain ⟨v, h', hcl, he, b, rfl, hb⟩ := call15 h X Sg g hf hc
  exact ⟨_, _, hcl, he, by rw [hb.2 hg]⟩
theorem valF (h : Heap) (X Sg : SV) (g : GC) (hf : Fits g) (hc : IsCode h X Sg g) (hg : ¬ VG g) : ∃ v h', Cal FT HKt 15 [.agg [X, Sg, .int .i64 g.L]] h v h' ∧ Ext h h' ∧ v = .sc (.bool false) := by
  obtain ⟨v, h', hcl, he, b, rfl, hb⟩ := call15 h X Sg g hf hc
  refine ⟨_, _, hcl, he, ?_⟩
  cases b with
  | false => rfl
  | true => exact absurd (hb.1 rfl) hg
end Go.Proofs.YtjmapbmdfbdomaaDoor
