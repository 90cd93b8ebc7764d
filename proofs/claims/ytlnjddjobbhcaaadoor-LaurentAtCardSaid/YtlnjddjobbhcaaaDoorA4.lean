/- The law LaurentAt. -/
import Derived.Test.YtlnjddjobbhcaaaDoorA3
import Derived.Test.YtlnjddjobbhcaaaDoorQS
import Derived.Test.YtlnjddjobbhcaaaDoorT5
namespace Go.Proofs.YtlnjddjobbhcaaaDoor
open Go.Ab
set_option linter.unusedVariables false
set_option linter.unusedSimpArgs false
set_option maxRecDepth 20000
set_option maxHeartbeats 16000000
attribute [local irreducible] wOps wA wSeq wBlk wRound wRoundI wOpsD wOpsS

def I9a (h0 : Heap) (low low2 x : Int) (s t : SV) (xs : List Int) (E : Env) (h : Heap) : Prop := h = h0 ∧ ∃ i : Nat, i ≤ xs.length ∧ (∀ k, k < i → (xs.getD k 0).natAbs ≤ 100) ∧
  E.keep [0, 1, 2, 3, 4, 11] = [(0, some (.sc (.int .i64 low))), (1, some (.sc s)), (2, some (.sc (.int .i64 low2))), (3, some (.sc t)), (4, some (.sc (.int .i64 x))), (11, some (.sc (.int .i64 (i : Nat))))]
def R9a (h0 : Heap) (low low2 x : Int) (s t : SV) (xs : List Int) (ex : Ex) (E : Env) (h : Heap) : Prop := h = h0 ∧
  ((ex = .ex 0 ∧ (∀ k, k < xs.length → (xs.getD k 0).natAbs ≤ 100) ∧ ∃ a b, E = [(0, some (.sc (.int .i64 low))), (1, some (.sc s)), (2, some (.sc (.int .i64 low2))), (3, some (.sc t)), (4, some (.sc (.int .i64 x))), (11, a), (76, b)]) ∨
   (ex = .rt ∧ E = [(10, some (.sc (.bool true)))]))
theorem round9a (h0 : Heap) (low low2 x : Int) (s t : SV) (xs : List Int) (hs : IsInts h0 s xs) (hn : xs.length ≤ 5) (E : Env) (h : Heap) (hI : I9a h0 low low2 x s t xs E h) :
    wA FT HKt b9L0 (E.keep [0, 1, 2, 3, 4, 11]) h (wRound (I9a h0 low low2 x s t xs) (cK [0, 1, 2, 3, 4, 11] xs.length 11) (cK [0, 1, 2, 3, 4, 11] xs.length 11 E h) (R9a h0 low low2 x s t xs)) := by
  obtain ⟨rfl, i, hi, hsm, hE⟩ := hI
  have hm : cK [0, 1, 2, 3, 4, 11] xs.length 11 E h = xs.length - i := by unfold cK; rw [hE]; rfl
  rw [hm, hE]
  have ls := IsSl.len hs
  by_cases hlt : i < xs.length
  · obtain ⟨v, hv⟩ : ∃ v, xs[i]? = some v := ⟨_, List.getElem?_eq_getElem hlt⟩
    have hvd : xs.getD i 0 = v := by rw [List.getD_eq_getElem?_getD, hv]; rfl
    obtain ⟨id, off, cap, rfl, rd⟩ := IsInts.at hs hv
    by_cases h1 : v < -100
    · repeat' (first | refine w_seq ?_ | refine w_seqN ?_ | refine w_seqR ?_ | refine w_blk ?_ | refine w_blkR ?_ | refine w_skip ?_ | refine w_ret ?_ | refine w_ops ?_ | ((refine i_cond ?_); refine w_condT rfl ?_) | ((refine i_nil ?_); first | refine w_end1 rfl ?_ | refine w_end7 rfl rfl rfl rfl rfl rfl rfl ?_) | ((refine i_cons ?_); first | refine k_len rfl ls ?_ | refine k_idxA (esz := 1) rfl rfl (by omega) ?_ | refine k_ld rfl rd ?_ | refine k_skip rfl ?_ | refine k_mv rfl ?_ | refine k_pickT rfl rfl ?_ | refine k_lssT rfl rfl (by omega) ?_))
      exact w_roundR ⟨rfl, .inr ⟨rfl, rfl⟩⟩
    · by_cases h2 : 100 < v
      · repeat' (first | refine w_seq ?_ | refine w_seqN ?_ | refine w_seqR ?_ | refine w_blk ?_ | refine w_blkR ?_ | refine w_skip ?_ | refine w_ret ?_ | refine w_ops ?_ | ((refine i_cond ?_); refine w_condT rfl ?_) | ((refine i_nil ?_); first | refine w_end1 rfl ?_ | refine w_end7 rfl rfl rfl rfl rfl rfl rfl ?_) | ((refine i_cons ?_); first | refine k_len rfl ls ?_ | refine k_idxA (esz := 1) rfl rfl (by omega) ?_ | refine k_ld rfl rd ?_ | refine k_want rfl ?_ | refine k_mv rfl ?_ | refine k_pickF rfl rfl ?_ | refine k_lssT rfl rfl (by omega) ?_ | refine k_lssF rfl rfl (by omega) ?_ | refine k_gtrT rfl rfl (by omega) ?_))
        exact w_roundR ⟨rfl, .inr ⟨rfl, rfl⟩⟩
      · repeat' (first | refine w_seq ?_ | refine w_seqN ?_ | refine w_blk ?_ | refine w_blkN ?_ | refine w_skip ?_ | refine w_ops ?_ | ((refine i_cond ?_); first | refine w_condT rfl ?_ | refine w_condF rfl ?_) | ((refine i_nil ?_); first | refine w_end6 rfl rfl rfl rfl rfl rfl ?_ | refine w_end7 rfl rfl rfl rfl rfl rfl rfl ?_) | ((refine i_cons ?_); first | refine k_len rfl ls ?_ | refine k_idxA (esz := 1) rfl rfl (by omega) ?_ | refine k_ld rfl rd ?_ | refine k_want rfl ?_ | refine k_mv rfl ?_ | refine k_pickF rfl rfl ?_ | refine k_add rfl rfl (by omega) ?_ | refine k_lssT rfl rfl (by omega) ?_ | refine k_lssF rfl rfl (by omega) ?_ | refine k_gtrF rfl rfl (by omega) ?_))
        refine w_roundN ⟨rfl, i + 1, by omega, fun k hk => ?_, rfl⟩ (by simp [cK, Env.keep, Env.get]; omega)
        by_cases e : k = i
        · rw [e, hvd]; omega
        · exact hsm k (by omega)
  · have : i = xs.length := by omega
    subst this
    repeat' (first | refine w_seq ?_ | refine w_seqN ?_ | refine w_seqX ?_ | refine w_exit ?_ | refine w_ops ?_ | ((refine i_cond ?_); refine w_condF rfl ?_) | ((refine i_nil ?_); refine w_end7 rfl rfl rfl rfl rfl rfl rfl ?_) | ((refine i_cons ?_); first | refine k_len rfl ls ?_ | refine k_mv rfl ?_ | refine k_lssF rfl rfl (by omega) ?_))
    exact w_roundX ⟨rfl, .inl ⟨rfl, hsm, _, _, rfl⟩⟩
def I9b (h0 : Heap) (low low2 x : Int) (s t : SV) (xs : List Int) (E : Env) (h : Heap) : Prop := h = h0 ∧ ∃ i : Nat, i ≤ xs.length ∧ (∀ k, k < i → (xs.getD k 0).natAbs ≤ 100) ∧
  E.keep [0, 1, 2, 3, 4, 12] = [(0, some (.sc (.int .i64 low))), (1, some (.sc s)), (2, some (.sc (.int .i64 low2))), (3, some (.sc t)), (4, some (.sc (.int .i64 x))), (12, some (.sc (.int .i64 (i : Nat))))]
def R9b (h0 : Heap) (low low2 x : Int) (s t : SV) (xs : List Int) (ex : Ex) (E : Env) (h : Heap) : Prop := h = h0 ∧
  ((ex = .ex 2 ∧ (∀ k, k < xs.length → (xs.getD k 0).natAbs ≤ 100) ∧ ∃ a b, E = [(0, some (.sc (.int .i64 low))), (1, some (.sc s)), (2, some (.sc (.int .i64 low2))), (3, some (.sc t)), (4, some (.sc (.int .i64 x))), (12, a), (94, b)]) ∨
   (ex = .rt ∧ E = [(10, some (.sc (.bool true)))]))
theorem round9b (h0 : Heap) (low low2 x : Int) (s t : SV) (xs : List Int) (hs : IsInts h0 t xs) (hn : xs.length ≤ 5) (E : Env) (h : Heap) (hI : I9b h0 low low2 x s t xs E h) :
    wA FT HKt b9L1 (E.keep [0, 1, 2, 3, 4, 12]) h (wRound (I9b h0 low low2 x s t xs) (cK [0, 1, 2, 3, 4, 12] xs.length 12) (cK [0, 1, 2, 3, 4, 12] xs.length 12 E h) (R9b h0 low low2 x s t xs)) := by
  obtain ⟨rfl, i, hi, hsm, hE⟩ := hI
  have hm : cK [0, 1, 2, 3, 4, 12] xs.length 12 E h = xs.length - i := by unfold cK; rw [hE]; rfl
  rw [hm, hE]
  have ls := IsSl.len hs
  by_cases hlt : i < xs.length
  · obtain ⟨v, hv⟩ : ∃ v, xs[i]? = some v := ⟨_, List.getElem?_eq_getElem hlt⟩
    have hvd : xs.getD i 0 = v := by rw [List.getD_eq_getElem?_getD, hv]; rfl
    obtain ⟨id, off, cap, rfl, rd⟩ := IsInts.at hs hv
    by_cases h1 : v < -100
    · repeat' (first | refine w_seq ?_ | refine w_seqN ?_ | refine w_seqR ?_ | refine w_blk ?_ | refine w_blkR ?_ | refine w_skip ?_ | refine w_ret ?_ | refine w_ops ?_ | ((refine i_cond ?_); refine w_condT rfl ?_) | ((refine i_nil ?_); first | refine w_end1 rfl ?_ | refine w_end7 rfl rfl rfl rfl rfl rfl rfl ?_) | ((refine i_cons ?_); first | refine k_len rfl ls ?_ | refine k_idxA (esz := 1) rfl rfl (by omega) ?_ | refine k_ld rfl rd ?_ | refine k_skip rfl ?_ | refine k_mv rfl ?_ | refine k_pickT rfl rfl ?_ | refine k_lssT rfl rfl (by omega) ?_))
      exact w_roundR ⟨rfl, .inr ⟨rfl, rfl⟩⟩
    · by_cases h2 : 100 < v
      · repeat' (first | refine w_seq ?_ | refine w_seqN ?_ | refine w_seqR ?_ | refine w_blk ?_ | refine w_blkR ?_ | refine w_skip ?_ | refine w_ret ?_ | refine w_ops ?_ | ((refine i_cond ?_); refine w_condT rfl ?_) | ((refine i_nil ?_); first | refine w_end1 rfl ?_ | refine w_end7 rfl rfl rfl rfl rfl rfl rfl ?_) | ((refine i_cons ?_); first | refine k_len rfl ls ?_ | refine k_idxA (esz := 1) rfl rfl (by omega) ?_ | refine k_ld rfl rd ?_ | refine k_want rfl ?_ | refine k_mv rfl ?_ | refine k_pickF rfl rfl ?_ | refine k_lssT rfl rfl (by omega) ?_ | refine k_lssF rfl rfl (by omega) ?_ | refine k_gtrT rfl rfl (by omega) ?_))
        exact w_roundR ⟨rfl, .inr ⟨rfl, rfl⟩⟩
      · repeat' (first | refine w_seq ?_ | refine w_seqN ?_ | refine w_blk ?_ | refine w_blkN ?_ | refine w_skip ?_ | refine w_ops ?_ | ((refine i_cond ?_); first | refine w_condT rfl ?_ | refine w_condF rfl ?_) | ((refine i_nil ?_); first | refine w_end6 rfl rfl rfl rfl rfl rfl ?_ | refine w_end7 rfl rfl rfl rfl rfl rfl rfl ?_) | ((refine i_cons ?_); first | refine k_len rfl ls ?_ | refine k_idxA (esz := 1) rfl rfl (by omega) ?_ | refine k_ld rfl rd ?_ | refine k_want rfl ?_ | refine k_mv rfl ?_ | refine k_pickF rfl rfl ?_ | refine k_add rfl rfl (by omega) ?_ | refine k_lssT rfl rfl (by omega) ?_ | refine k_lssF rfl rfl (by omega) ?_ | refine k_gtrF rfl rfl (by omega) ?_))
        refine w_roundN ⟨rfl, i + 1, by omega, fun k hk => ?_, rfl⟩ (by simp [cK, Env.keep, Env.get]; omega)
        by_cases e : k = i
        · rw [e, hvd]; omega
        · exact hsm k (by omega)
  · have : i = xs.length := by omega
    subst this
    repeat' (first | refine w_seq ?_ | refine w_seqN ?_ | refine w_seqX ?_ | refine w_exit ?_ | refine w_ops ?_ | ((refine i_cond ?_); refine w_condF rfl ?_) | ((refine i_nil ?_); refine w_end7 rfl rfl rfl rfl rfl rfl rfl ?_) | ((refine i_cons ?_); first | refine k_len rfl ls ?_ | refine k_mv rfl ?_ | refine k_lssF rfl rfl (by omega) ?_))
    exact w_roundX ⟨rfl, .inl ⟨rfl, hsm, _, _, rfl⟩⟩
structure St9 (h : Heap) (q9 q10 : Nat) (ps qs : List Tm) (sp sq : SV) : Prop where
  c9 : Cel h q9 (.bool false) sp
  c10 : Cel h q10 (.bool false) sq
  ip : IsD h sp (tms ps)
  iq : IsD h sq (tms qs)
theorem St9.ext {h h' : Heap} {q9 q10 : Nat} {ps qs : List Tm} {sp sq : SV} (st : St9 h q9 q10 ps qs sp sq) (he : Ext h h') : St9 h' q9 q10 ps qs sp sq :=
  ⟨st.c9.ext he, st.c10.ext he, st.ip.ext he, st.iq.ext he⟩
theorem mulb {a b : Int} {A B : Nat} (ha : a.natAbs ≤ A) (hb : b.natAbs ≤ B) : (a * b).natAbs ≤ A * B := by
  rw [Int.natAbs_mul]; exact Nat.mul_le_mul ha hb
theorem rngs {m k s u : Int} {n l t v : Nat} (hm : m.natAbs ≤ 8729600) (hk : k.natAbs ≤ 8729600) (hs : s.natAbs ≤ 117964800) (hu : u.natAbs ≤ 76205916160000) (hn : n ≤ 256) (hl : l ≤ 256) (ht : t ≤ 256) (hv : v ≤ 65536) :
    (s * n).natAbs ≤ 30198988800 ∧ (s * n * l).natAbs ≤ 7730941132800 ∧ (m * l).natAbs ≤ 2234777600 ∧ (k * n).natAbs ≤ 2234777600 ∧ ((m * l + k * n) * t).natAbs ≤ 1144206131200 ∧ (u * n).natAbs ≤ 19508714536960000 ∧ (u * n * l).natAbs ≤ 4994230921461760000 ∧ (m * k).natAbs ≤ 76205916160000 ∧ (m * k * v).natAbs ≤ 4994230921461760000 := by
  have n' : ((n : Nat) : Int).natAbs ≤ 256 := hn
  have l' : ((l : Nat) : Int).natAbs ≤ 256 := hl
  have t' : ((t : Nat) : Int).natAbs ≤ 256 := ht
  have v' : ((v : Nat) : Int).natAbs ≤ 65536 := hv
  have h1 := mulb hs n'
  have h2 := mulb h1 l'
  have h3 := mulb hm l'
  have h4 := mulb hk n'
  have h5 : (m * l + k * n).natAbs ≤ 4469555200 := by omega
  have h6 := mulb h5 t'
  have h7 := mulb hu n'
  have h8 := mulb h7 l'
  have h9 := mulb hm hk
  have h10 := mulb h9 v'
  exact ⟨h1, h2, h3, h4, h6, h7, h8, h9, h10⟩
theorem call9 (h0 : Heap) (low : Int) (hlow : -9223372036854775808 ≤ low ∧ low ≤ 9223372036854775807) (s : SV) (xs : List Int) (hx : IsInts h0 s xs) (low2 : Int) (hlow2 : -9223372036854775808 ≤ low2 ∧ low2 ≤ 9223372036854775807) (t : SV) (ys : List Int) (hy : IsInts h0 t ys) (x : Int) (hxr : -9223372036854775808 ≤ x ∧ x ≤ 9223372036854775807) :
    ∃ v h', Cal FT HKt 9 [.sc (.int .i64 low), .sc s, .sc (.int .i64 low2), .sc t, .sc (.int .i64 x)] h0 v h' ∧ v = .sc (.bool true) := by
  refine Cal.of (F := a9) rfl rfl rfl ?_
  have aw := fun H => awake_callT H
  have lx := IsSl.len hx
  have ly := IsSl.len hy
  have k11a := fun H (e : Ext h0 H) => call11 H low s xs (IsSl.ext hx e)
  have k11b := fun H (e : Ext h0 H) => call11 H low2 t ys (IsSl.ext hy e)
  by_cases hs1 : smallP low xs
  case neg =>
    rw [if_neg hs1] at k11a
    repeat' (first | refine w_seq ?_ | refine w_seqN ?_ | refine w_seqR ?_ | refine w_skip ?_ | refine w_ret ?_ | refine w_ops ?_ | ((refine i_cond ?_); first | refine w_condT rfl ?_ | refine w_condF rfl ?_) | ((refine i_nil ?_); first | refine w_end1 rfl ?_ | refine w_end5 rfl rfl rfl rfl rfl ?_ | refine w_end6 rfl rfl rfl rfl rfl rfl ?_) | ((refine i_cons ?_); first | (refine k_call rfl (aw _) ?_; rintro v _ ⟨rfl, rfl⟩) | (refine k_call rfl (k11a _ (Ext.refl _)) ?_; rintro v _ ⟨rfl, rfl⟩) | refine k_skip rfl ?_ | refine k_mv rfl ?_ | refine k_pickT rfl rfl ?_ | refine k_notT rfl ?_ | refine k_eqlT rfl rfl (by omega) ?_))
    exact ⟨.inr rfl, rfl⟩
  by_cases hs2 : smallP low2 ys
  case neg =>
    rw [if_pos hs1] at k11a
    rw [if_neg hs2] at k11b
    repeat' (first | refine w_seq ?_ | refine w_seqN ?_ | refine w_seqR ?_ | refine w_skip ?_ | refine w_ret ?_ | refine w_ops ?_ | ((refine i_cond ?_); first | refine w_condT rfl ?_ | refine w_condF rfl ?_) | ((refine i_nil ?_); first | refine w_end1 rfl ?_ | refine w_end5 rfl rfl rfl rfl rfl ?_ | refine w_end6 rfl rfl rfl rfl rfl rfl ?_) | ((refine i_cons ?_); first | (refine k_call rfl (aw _) ?_; rintro v _ ⟨rfl, rfl⟩) | (refine k_call rfl (k11a _ (Ext.refl _)) ?_; rintro v _ ⟨rfl, rfl⟩) | (refine k_call rfl (k11b _ (Ext.refl _)) ?_; rintro v _ ⟨rfl, rfl⟩) | refine k_skip rfl ?_ | refine k_want rfl ?_ | refine k_mv rfl ?_ | refine k_pickT rfl rfl ?_ | refine k_pickF rfl rfl ?_ | refine k_notT rfl ?_ | refine k_eqlT rfl rfl (by omega) ?_ | refine k_eqlF rfl rfl (by omega) ?_))
    exact ⟨.inr rfl, rfl⟩
  rw [if_pos hs1] at k11a
  rw [if_pos hs2] at k11b
  by_cases hg : (-4 ≤ x ∧ x ≤ 4) ∧ xs.length ≤ 5 ∧ ys.length ≤ 5 ∧ (-4 ≤ low ∧ low ≤ 0) ∧ -4 ≤ low2 ∧ low2 ≤ 0
  case neg =>
    repeat' (first | refine w_seq ?_ | refine w_seqN ?_ | refine w_seqR ?_ | refine w_skip ?_ | refine w_ret ?_ | refine w_ops ?_ | ((refine i_cond ?_); first | refine w_condT rfl ?_ | refine w_condF rfl ?_) | ((refine i_nil ?_); first | refine w_end1 rfl ?_ | refine w_end5 rfl rfl rfl rfl rfl ?_ | refine w_end6 rfl rfl rfl rfl rfl rfl ?_) | ((refine i_cons ?_); first | (refine k_call rfl (aw _) ?_; rintro v _ ⟨rfl, rfl⟩) | (refine k_call rfl (k11a _ (Ext.refl _)) ?_; rintro v _ ⟨rfl, rfl⟩) | (refine k_call rfl (k11b _ (Ext.refl _)) ?_; rintro v _ ⟨rfl, rfl⟩) | refine k_len rfl lx ?_ | refine k_len rfl ly ?_ | refine k_skip rfl ?_ | refine k_want rfl ?_ | refine k_mv rfl ?_ | refine k_pickT rfl rfl ?_ | refine k_pickF rfl rfl ?_ | refine k_notT rfl ?_ | refine k_lss rfl rfl (fun hc => ?_) (fun hc => ?_) | refine k_gtrT rfl rfl (by omega) ?_ | refine k_gtr rfl rfl (fun hc => ?_) (fun hc => ?_) | refine k_eqlF rfl rfl (by omega) ?_))
    all_goals exact ⟨.inr rfl, rfl⟩
  obtain ⟨hx4, hn1, hn2, hl1, hl2⟩ := hg
  repeat' (first | refine w_seq ?_ | refine w_seqN ?_ | refine w_blk ?_ | refine w_skip ?_ | refine w_ops ?_ | ((refine i_cond ?_); refine w_condF rfl ?_) | ((refine i_nil ?_); first | refine w_end5 rfl rfl rfl rfl rfl ?_ | refine w_end6 rfl rfl rfl rfl rfl rfl ?_) | ((refine i_cons ?_); first | (refine k_call rfl (aw _) ?_; rintro v _ ⟨rfl, rfl⟩) | (refine k_call rfl (k11a _ (Ext.refl _)) ?_; rintro v _ ⟨rfl, rfl⟩) | (refine k_call rfl (k11b _ (Ext.refl _)) ?_; rintro v _ ⟨rfl, rfl⟩) | refine k_len rfl lx ?_ | refine k_len rfl ly ?_ | refine k_want rfl ?_ | refine k_mv rfl ?_ | refine k_pickF rfl rfl ?_ | refine k_notT rfl ?_ | refine k_lssF rfl rfl (by omega) ?_ | refine k_gtrF rfl rfl (by omega) ?_ | refine k_eqlF rfl rfl (by omega) ?_))
  refine w_loop (I9a _ low low2 x s t xs) (cK [0, 1, 2, 3, 4, 11] xs.length 11) (R9a _ low low2 x s t xs) ⟨rfl, 0, Nat.zero_le _, fun k hk => absurd hk (Nat.not_lt_zero _), rfl⟩ (round9a _ low low2 x s t xs hx hn1) ?_
  rintro ex E' h1 ⟨rfl, ⟨rfl, hax, _, _, rfl⟩ | ⟨rfl, rfl⟩⟩
  case inr =>
    repeat' (first | refine w_seqR ?_ | refine w_blkR ?_)
    exact ⟨.inr rfl, rfl⟩
  repeat' (first | refine w_seq ?_ | refine w_seqN ?_ | refine w_blk ?_ | refine w_blkX ?_ | refine w_ops ?_ | ((refine i_nil ?_); refine w_end6 rfl rfl rfl rfl rfl rfl ?_) | ((refine i_cons ?_); refine k_mv rfl ?_))
  refine w_loop (I9b _ low low2 x s t ys) (cK [0, 1, 2, 3, 4, 12] ys.length 12) (R9b _ low low2 x s t ys) ⟨rfl, 0, Nat.zero_le _, fun k hk => absurd hk (Nat.not_lt_zero _), rfl⟩ (round9b _ low low2 x s t ys hy hn2) ?_
  rintro ex E' h1 ⟨rfl, ⟨rfl, hay, _, _, rfl⟩ | ⟨rfl, rfl⟩⟩
  case inr =>
    repeat' (first | refine w_seqR ?_ | refine w_blkR ?_)
    exact ⟨.inr rfl, rfl⟩
  obtain ⟨a1, a2, a3⟩ := small_ofP hs1
  obtain ⟨b1, b2, b3⟩ := small_ofP hs2
  have k12a := fun H (e : Ext _ H) => call12 H low a2 s xs a1 (IsSl.ext hx e) a3
  have k12b := fun H (e : Ext _ H) => call12 H low2 b2 t ys b1 (IsSl.ext hy e) b3
  have smP := ofP_sm hl1 hn1 hax
  have smQ := ofP_sm hl2 hn2 hay
  clear k11a k11b hs1 hs2 a1 a2 a3 b1 b2 b3 hax hay lx ly
  generalize ofP low xs = P at *
  generalize ofP low2 ys = Q at *
  have sA := sm_add smP smQ
  have sM := sm_mul smP smQ
  have k21 := fun H sp sq ip iq => call21 H sp sq P Q ip iq smP.ok smQ.ok
  rw [sA.eq] at k21
  have k16 := fun H sp sq ip iq => call16 H sp sq P Q ip iq smP.ok smQ.ok (fun a b => by
    obtain ⟨a, a1, a2⟩ := lo0_mem a
    obtain ⟨b, b1, b2⟩ := lo0_mem b
    obtain ⟨c, c1, c2⟩ := hi0_mem (List.ne_nil_of_mem a1)
    obtain ⟨d, d1, d2⟩ := hi0_mem (List.ne_nil_of_mem b1)
    have := smP.ex a a1
    have := smQ.ex b b1
    have := smP.ex c c1
    have := smQ.ex d d1
    have : 0 ≤ 4 * (P.ts.length : Int) * Q.ts.length := Int.mul_nonneg (by omega) (by omega)
    omega)
  have sAc := sA.can
  have sAe := sA.ex
  have sAp := sA.pa
  generalize mulP P Q = M at *
  obtain ⟨pb, ps⟩ := P
  obtain ⟨qb, qs⟩ := Q
  obtain ⟨mb, ms⟩ := M
  obtain rfl : pb = false := smP.big
  obtain rfl : qb = false := smQ.big
  obtain rfl : mb = false := sM.big
  have hxa : x.natAbs ≤ 4 := by omega
  have pc : Can ps := smP.ok.can
  have qc : Can qs := smQ.ok.can
  have pe : ∀ t ∈ ps, -4 ≤ t.1 ∧ t.1 ≤ 4 ∧ t.2.natAbs ≤ 100 := smP.ex
  have qe : ∀ t ∈ qs, -4 ≤ t.1 ∧ t.1 ≤ 4 ∧ t.2.natAbs ≤ 100 := smQ.ex
  have me : ∀ t ∈ ms, -8 ≤ t.1 ∧ t.1 ≤ 8 ∧ t.2.natAbs ≤ 50000 := sM.ex
  have hxp : 2 ≤ x.natAbs → 1 ≤ x.natAbs := fun h => by omega
  have k32p' := fun (hz : x = 0 → ¬ lo0 ps < 0) H sp (is : IsD H sp (tms ps)) => call32v H sp ps x (-4) is pc hxa (by omega) (fun t ht => by have := pe t ht; omega) (fun h => Nat.le_trans (smP.pa _ (hxp h) hxa) (by omega)) hz
  have k32q' := fun (hz : x = 0 → ¬ lo0 qs < 0) H sp (is : IsD H sp (tms qs)) => call32v H sp qs x (-4) is qc hxa (by omega) (fun t ht => by have := qe t ht; omega) (fun h => Nat.le_trans (smQ.pa _ (hxp h) hxa) (by omega)) hz
  have k32a' := fun (hz : x = 0 → ¬ lo0 (mA ps qs) < 0) H sp (is : IsD H sp (tms (mA ps qs))) => call32v H sp (mA ps qs) x (-4) is sAc hxa (by omega) (fun t ht => by have := sAe t ht; omega) (fun h => Nat.le_trans (sAp _ (hxp h) hxa) (by omega)) hz
  have k32m' := fun (hz : x = 0 → ¬ lo0 ms < 0) H sp (is : IsD H sp (tms ms)) => call32v H sp ms x (-8) is sM.can hxa (by omega) (fun t ht => by have := me t ht; omega) (fun h => Nat.le_trans (sM.pa _ (hxp h) hxa) (by omega)) hz
  have nump : ∀ m n, IsV x (-4) ps m n → m.natAbs ≤ 8729600 := fun m n V => V.num hxa smP.pa pc (fun t ht => by have := pe t ht; omega)
  have numq : ∀ m n, IsV x (-4) qs m n → m.natAbs ≤ 8729600 := fun m n V => V.num hxa smQ.pa qc (fun t ht => by have := qe t ht; omega)
  have k27p := fun H sp (is : IsD H sp (tms ps)) => call27 H false sp ps is
  have k27q := fun H sp (is : IsD H sp (tms qs)) => call27 H false sp qs is
  have fact' : (x = 0 → (∀ t ∈ ps, 0 ≤ t.1) ∧ ∀ t ∈ qs, 0 ≤ t.1) → ∀ (m k s u : Int) (n l t v : Nat), IsV x (-4) ps m n → IsV x (-4) qs k l → IsV x (-4) (mA ps qs) s t → IsV x (-8) ms u v → s * n * l = (m * l + k * n) * t ∧ u * n * l = m * k * v ∧ (s * n).natAbs ≤ 30198988800 ∧ (s * n * l).natAbs ≤ 7730941132800 ∧ (m * l).natAbs ≤ 2234777600 ∧ (k * n).natAbs ≤ 2234777600 ∧ ((m * l + k * n) * t).natAbs ≤ 1144206131200 ∧ (u * n).natAbs ≤ 19508714536960000 ∧ (u * n * l).natAbs ≤ 4994230921461760000 ∧ (m * k).natAbs ≤ 76205916160000 ∧ (m * k * v).natAbs ≤ 4994230921461760000 := fun hz m k s u n l t v V1 V2 V3 V4 => by
    refine ⟨fin_add V1 V2 V3 hxa, fin_mul V1 V2 V4 hxa (fun h => sM.cf (hz h).1 (hz h).2) (sM.sv x) (sM.pv x), rngs (nump m n V1) (numq k l V2) ?_ ?_ (V1.den hxa 4 rfl).2.1 (V2.den hxa 4 rfl).2.1 (V3.den hxa 4 rfl).2.1 (V4.den hxa 8 rfl).2.1⟩
    · exact V3.num hxa sAp sAc (fun t ht => by have := sAe t ht; omega)
    · exact V4.num hxa sM.pa sM.can (fun t ht => by have := me t ht; omega)
  by_cases hx0 : x = 0
  · by_cases hlp : lo0 ps < 0
    · subst hx0
      have k32 := fun H sp (is : IsD H sp (tms ps)) => call32z H sp ps is pc (by have := smP.len; simp only at this; omega)
      rw [if_pos hlp] at k32
      clear k32p' k32q' k32a' k32m' fact' nump numq k21 k16
      repeat' (first | refine w_seq ?_ | refine w_seqN ?_ | refine w_seqR ?_ | refine w_blkX ?_ | refine w_ret ?_ | refine w_ops ?_ | ((refine i_cond ?_); refine w_condT rfl ?_) | ((refine i_nil ?_); first | refine w_end1 rfl ?_ | refine w_end3 rfl rfl rfl ?_ | refine w_end6 rfl rfl rfl rfl rfl rfl ?_ | refine w_end7 rfl rfl rfl rfl rfl rfl rfl ?_) | ((refine i_cons ?_); first | (refine k_call rfl (k12a _ (Ext.refl _)) ?_; rintro v hA ⟨eA, sp, rfl, ip⟩) | (refine k_call rfl (k12b _ eA) ?_; rintro v hB ⟨eB, sq, rfl, iq⟩; have ip2 := ip.ext eB) | (have z := eC; refine k_newC ?_; intro hD eD c10; have d9 := c9.ext eD; have n9 := c9.lt) | (have z := eB; refine k_newC ?_; intro hC eC c9) | (refine k_stC rfl rfl d9 ?_; intro hE wE; have d10 := wE.keep c10 (by omega)) | (refine k_stC rfl rfl d10 ?_; intro hF wF; have s6 : St9 hF hB.length hC.length ps qs sp sq := ⟨wF.keep wE.cel (by omega), wF.cel, ((((ip2.ext eC).ext eD).wrC wE).wrC wF), ((((iq.ext eC).ext eD).wrC wE).wrC wF)⟩) | refine k_ldC rfl s6.c9 ?_ | (refine k_call rfl (k32 hF _ s6.ip) ?_; rintro v h7 ⟨e7, rfl⟩; have s7 := s6.ext e7) | refine k_ldC rfl s7.c9 ?_ | (refine k_call rfl (k27p h7 _ s7.ip) ?_; rintro v h8 ⟨e8, rfl⟩; have s8 := s7.ext e8) | refine k_want rfl ?_ | refine k_mv rfl ?_ | refine k_pickT rfl rfl ?_ | refine k_lssT rfl rfl (by omega) ?_ | refine k_eqlT rfl rfl (by omega) ?_ | refine k_ok rfl rfl ?_))
      exact ⟨.inr rfl, rfl⟩
    by_cases hlq : lo0 qs < 0
    · have k32p := k32p' (fun _ => hlp)
      have k32 := fun H sp (is : IsD H sp (tms qs)) => call32z H sp qs is qc (by have := smQ.len; simp only at this; omega)
      rw [if_pos hlq] at k32
      clear k32p' k32q' k32a' k32m' fact' numq k21 k16
      subst hx0
      repeat' (first | refine w_seq ?_ | refine w_seqN ?_ | refine w_seqR ?_ | refine w_blkX ?_ | refine w_skip ?_ | refine w_ret ?_ | refine w_ops ?_ | ((refine i_cond ?_); first | refine w_condT rfl ?_ | refine w_condF rfl ?_) | ((refine i_nil ?_); first | refine w_end1 rfl ?_ | refine w_end3 rfl rfl rfl ?_ | refine w_end6 rfl rfl rfl rfl rfl rfl ?_ | refine w_end7 rfl rfl rfl rfl rfl rfl rfl ?_ | refine w_end8 rfl rfl rfl rfl rfl rfl rfl rfl ?_) | ((refine i_cons ?_); first | (refine k_call rfl (k12a _ (Ext.refl _)) ?_; rintro v hA ⟨eA, sp, rfl, ip⟩) | (refine k_call rfl (k12b _ eA) ?_; rintro v hB ⟨eB, sq, rfl, iq⟩; have ip2 := ip.ext eB) | (have z := eC; refine k_newC ?_; intro hD eD c10; have d9 := c9.ext eD; have n9 := c9.lt) | (have z := eB; refine k_newC ?_; intro hC eC c9) | (refine k_stC rfl rfl d9 ?_; intro hE wE; have d10 := wE.keep c10 (by omega)) | (refine k_stC rfl rfl d10 ?_; intro hF wF; have s6 : St9 hF hB.length hC.length ps qs sp sq := ⟨wF.keep wE.cel (by omega), wF.cel, ((((ip2.ext eC).ext eD).wrC wE).wrC wF), ((((iq.ext eC).ext eD).wrC wE).wrC wF)⟩) | refine k_ldC rfl s6.c9 ?_ | (refine k_call rfl (k32p hF _ s6.ip) ?_; rintro v h7 ⟨e7, m, n, V1, rfl⟩; have s7 := s6.ext e7; obtain ⟨n1, n2, n3⟩ := V1.den hxa 4 rfl; have N1 := nump m n V1; have k33 := fun H => call33 H m (n : Int) (by omega) (by omega); rw [show ((n : Nat) : Int).natAbs = n from rfl, n3] at k33) | refine k_ldC rfl s7.c9 ?_ | (refine k_call rfl (k27p h7 _ s7.ip) ?_; rintro v h8 ⟨e8, rfl⟩; have s8 := s7.ext e8) | refine k_ldC rfl s8.c10 ?_ | (refine k_call rfl (k33 _) ?_; rintro v _ ⟨rfl, rfl⟩) | (refine k_call rfl (k32 _ _ s8.iq) ?_; rintro v h9 ⟨e9, rfl⟩; have s9 := s8.ext e9) | refine k_ldC rfl s9.c10 ?_ | (refine k_call rfl (k27q h9 _ s9.iq) ?_; rintro v hG ⟨eG, rfl⟩) | refine k_want rfl ?_ | refine k_mv rfl ?_ | refine k_pickT rfl rfl ?_ | refine k_pickF rfl rfl ?_ | refine k_lssT rfl rfl (by omega) ?_ | refine k_lssF rfl rfl (by omega) ?_ | refine k_eqlT rfl rfl (by omega) ?_ | refine k_neqT rfl rfl (by omega) ?_ | refine k_neqF rfl rfl (by omega) ?_ | refine k_ok rfl rfl ?_))
      exact ⟨.inr rfl, rfl⟩
    have pn := nn_lo pc hlp
    have qn := nn_lo qc hlq
    have k32p := k32p' (fun _ => hlp)
    have k32q := k32q' (fun _ => hlq)
    have k32a := k32a' (fun _ => lo_nn fun t ht => by
      rcases mrg_mem ht with ⟨u, hu, e⟩ | ⟨u, hu, e⟩
      · have := pn u hu; omega
      · have := qn u hu; omega)
    have k32m := k32m' (fun _ => lo_nn (sM.lo pn qn))
    have fact := fact' (fun _ => ⟨pn, qn⟩)
    clear k32p' k32q' k32a' k32m' fact'
    subst hx0
    repeat' (first | refine w_seq ?_ | refine w_seqN ?_ | refine w_blkX ?_ | refine w_skip ?_ | refine w_ret ?_ | refine w_ops ?_ | ((refine i_cond ?_); refine w_condF rfl ?_) | ((refine i_nil ?_); first | refine w_end1 rfl ?_ | refine w_end3 rfl rfl rfl ?_ | refine w_end6 rfl rfl rfl rfl rfl rfl ?_ | refine w_end7 rfl rfl rfl rfl rfl rfl rfl ?_ | refine w_end8 rfl rfl rfl rfl rfl rfl rfl rfl ?_ | refine w_end10 rfl rfl rfl rfl rfl rfl rfl rfl rfl rfl ?_) | ((refine i_cons ?_); first | (refine k_call rfl (k12a _ (Ext.refl _)) ?_; rintro v hA ⟨eA, sp, rfl, ip⟩) | (refine k_call rfl (k12b _ eA) ?_; rintro v hB ⟨eB, sq, rfl, iq⟩; have ip2 := ip.ext eB) | (have z := eC; refine k_newC ?_; intro hD eD c10; have d9 := c9.ext eD; have n9 := c9.lt) | (have z := eB; refine k_newC ?_; intro hC eC c9) | (refine k_stC rfl rfl d9 ?_; intro hE wE; have d10 := wE.keep c10 (by omega)) | (refine k_stC rfl rfl d10 ?_; intro hF wF; have s6 : St9 hF hB.length hC.length ps qs sp sq := ⟨wF.keep wE.cel (by omega), wF.cel, ((((ip2.ext eC).ext eD).wrC wE).wrC wF), ((((iq.ext eC).ext eD).wrC wE).wrC wF)⟩) | refine k_ldC rfl s6.c9 ?_ | (refine k_call rfl (k32p hF _ s6.ip) ?_; rintro v h7 ⟨e7, m, n, V1, rfl⟩; have s7 := s6.ext e7; obtain ⟨n1, n2, n3⟩ := V1.den hxa 4 rfl; have N1 := nump m n V1; have k33 := fun H => call33 H m (n : Int) (by omega) (by omega); rw [show ((n : Nat) : Int).natAbs = n from rfl, n3] at k33) | refine k_ldC rfl s7.c9 ?_ | (refine k_call rfl (k27p h7 _ s7.ip) ?_; rintro v h8 ⟨e8, rfl⟩; have s8 := s7.ext e8) | refine k_ldC rfl s8.c10 ?_ | (refine k_call rfl (k33 _) ?_; rintro v _ ⟨rfl, rfl⟩) | (refine k_call rfl (k32q _ _ s8.iq) ?_; rintro v h9 ⟨e9, k, l, V2, rfl⟩; have s9 := s8.ext e9) | refine k_ldC rfl s9.c9 ?_ | refine k_ldC rfl s9.c10 ?_ | (refine k_call rfl (k21 h9 _ _ s9.ip s9.iq) ?_; rintro v hG ⟨eG, sa, rfl, ia⟩; have sG := s9.ext eG) | (refine k_call rfl (k32a hG _ ia) ?_; rintro v hH ⟨eH, sv3, t3, V3, rfl⟩; have sH := sG.ext eH) | refine k_ldC rfl sH.c9 ?_ | refine k_ldC rfl sH.c10 ?_ | (refine k_call rfl (k16 hH _ _ sH.ip sH.iq) ?_; rintro v hI ⟨eI, sm, rfl, im⟩) | (refine k_call rfl (k32m hI _ im) ?_; rintro v hJ ⟨eJ, u4, v4, V4, rfl⟩; obtain ⟨f1, f2, g1, g2, g3, g4, g5, g6, g7, g8, g9⟩ := fact m k sv3 u4 n l t3 v4 V1 V2 V3 V4) | refine k_want rfl ?_ | refine k_mv rfl ?_ | refine k_pickT rfl rfl ?_ | refine k_pickF rfl rfl ?_ | refine k_add rfl rfl (by omega) ?_ | refine k_mul rfl rfl (by omega) ?_ | refine k_lssF rfl rfl (by omega) ?_ | refine k_eqlT rfl rfl (by omega) ?_ | refine k_neqF rfl rfl (by omega) ?_ | refine k_ok rfl rfl ?_))
    exact ⟨.inr rfl, rfl⟩
  · have k32p := k32p' (fun h => absurd h hx0)
    have k32q := k32q' (fun h => absurd h hx0)
    have k32a := k32a' (fun h => absurd h hx0)
    have k32m := k32m' (fun h => absurd h hx0)
    have fact := fact' (fun h => absurd h hx0)
    clear k32p' k32q' k32a' k32m' fact'
    repeat' (first | refine w_seq ?_ | refine w_seqN ?_ | refine w_blkX ?_ | refine w_skip ?_ | refine w_ret ?_ | refine w_ops ?_ | ((refine i_cond ?_); refine w_condF rfl ?_) | ((refine i_nil ?_); first | refine w_end1 rfl ?_ | refine w_end3 rfl rfl rfl ?_ | refine w_end6 rfl rfl rfl rfl rfl rfl ?_ | refine w_end7 rfl rfl rfl rfl rfl rfl rfl ?_ | refine w_end8 rfl rfl rfl rfl rfl rfl rfl rfl ?_ | refine w_end10 rfl rfl rfl rfl rfl rfl rfl rfl rfl rfl ?_) | ((refine i_cons ?_); first | (refine k_call rfl (k12a _ (Ext.refl _)) ?_; rintro v hA ⟨eA, sp, rfl, ip⟩) | (refine k_call rfl (k12b _ eA) ?_; rintro v hB ⟨eB, sq, rfl, iq⟩; have ip2 := ip.ext eB) | (have z := eC; refine k_newC ?_; intro hD eD c10; have d9 := c9.ext eD; have n9 := c9.lt) | (have z := eB; refine k_newC ?_; intro hC eC c9) | (refine k_stC rfl rfl d9 ?_; intro hE wE; have d10 := wE.keep c10 (by omega)) | (refine k_stC rfl rfl d10 ?_; intro hF wF; have s6 : St9 hF hB.length hC.length ps qs sp sq := ⟨wF.keep wE.cel (by omega), wF.cel, ((((ip2.ext eC).ext eD).wrC wE).wrC wF), ((((iq.ext eC).ext eD).wrC wE).wrC wF)⟩) | refine k_ldC rfl s6.c9 ?_ | (refine k_call rfl (k32p hF _ s6.ip) ?_; rintro v h7 ⟨e7, m, n, V1, rfl⟩; have s7 := s6.ext e7; obtain ⟨n1, n2, n3⟩ := V1.den hxa 4 rfl; have N1 := nump m n V1; have k33 := fun H => call33 H m (n : Int) (by omega) (by omega); rw [show ((n : Nat) : Int).natAbs = n from rfl, n3] at k33) | (refine k_call rfl (k33 _) ?_; rintro v _ ⟨rfl, rfl⟩) | refine k_ldC rfl s7.c10 ?_ | (refine k_call rfl (k32q _ _ s7.iq) ?_; rintro v h9 ⟨e9, k, l, V2, rfl⟩; have s9 := s7.ext e9) | refine k_ldC rfl s9.c9 ?_ | refine k_ldC rfl s9.c10 ?_ | (refine k_call rfl (k21 h9 _ _ s9.ip s9.iq) ?_; rintro v hG ⟨eG, sa, rfl, ia⟩; have sG := s9.ext eG) | (refine k_call rfl (k32a hG _ ia) ?_; rintro v hH ⟨eH, sv3, t3, V3, rfl⟩; have sH := sG.ext eH) | refine k_ldC rfl sH.c9 ?_ | refine k_ldC rfl sH.c10 ?_ | (refine k_call rfl (k16 hH _ _ sH.ip sH.iq) ?_; rintro v hI ⟨eI, sm, rfl, im⟩) | (refine k_call rfl (k32m hI _ im) ?_; rintro v hJ ⟨eJ, u4, v4, V4, rfl⟩; obtain ⟨f1, f2, g1, g2, g3, g4, g5, g6, g7, g8, g9⟩ := fact m k sv3 u4 n l t3 v4 V1 V2 V3 V4) | refine k_skip rfl ?_ | refine k_want rfl ?_ | refine k_mv rfl ?_ | refine k_pickT rfl rfl ?_ | refine k_pickF rfl rfl ?_ | refine k_add rfl rfl (by omega) ?_ | refine k_mul rfl rfl (by omega) ?_ | refine k_lssF rfl rfl (by omega) ?_ | refine k_eqlT rfl rfl (by omega) ?_ | refine k_eqlF rfl rfl (by omega) ?_ | refine k_neqF rfl rfl (by omega) ?_ | refine k_ok rfl rfl ?_))
    exact ⟨.inr rfl, rfl⟩
end Go.Proofs.YtlnjddjobbhcaaaDoor
