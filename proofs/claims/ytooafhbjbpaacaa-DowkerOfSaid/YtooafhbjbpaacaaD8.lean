/- The reference's Of: contract. -/
import Derived.Test.YtooafhbjbpaacaaD7
import Derived.Test.YtooafhbjbpaacaaS4
import Derived.Test.YtooafhbjbpaacaaDP11
namespace Go.Proofs.Ytooafhbjbpaacaa
open Go.Ab
set_option linter.unusedVariables false
set_option linter.unusedSimpArgs false
set_option maxRecDepth 20000
set_option maxHeartbeats 4000000
attribute [local irreducible] wOps wA wSeq wBlk wRound wRoundI wOpsD wOpsS
variable {HK : FuncId → Option Hook}

/-- The passages of the crossing c among the first k. -/
def nbL (S : Nat → Nat) (c k : Nat) : List Int := ((List.range k).filter fun j => decide (S j / 4 = c)).map fun j : Nat => (j : Int)
theorem nbL_next (S : Nat → Nat) (c k : Nat) : nbL S c (k + 1) = if S k / 4 = c then nbL S c k ++ [(k : Int)] else nbL S c k := by
  unfold nbL
  rw [List.range_succ, List.filter_append, List.map_append]
  by_cases h : S k / 4 = c
  · rw [if_pos h]; simp [h]
  · rw [if_neg h]; simp [h]
theorem nbL_len (S : Nat → Nat) (c k : Nat) : (nbL S c k).length ≤ k := by
  unfold nbL
  rw [List.length_map]
  exact Nat.le_trans (List.length_filter_le _ _) (by simp)
theorem two_mem {l : List Nat} {a b : Nat} (hp : l.Pairwise (· < ·)) (hab : a < b) (hm : ∀ x, x ∈ l ↔ x = a ∨ x = b) : l = [a, b] := by
  match l with
  | [] => exact absurd ((hm a).2 (.inl rfl)) (by simp)
  | [x] =>
    have h1 := (hm a).2 (.inl rfl)
    have h2 := (hm b).2 (.inr rfl)
    simp at h1 h2; omega
  | x :: y :: r =>
    obtain ⟨h1, h2⟩ := List.pairwise_cons.1 hp
    obtain ⟨h3, h4⟩ := List.pairwise_cons.1 h2
    have hx := (hm x).1 (.head _)
    have hy := (hm y).1 (.tail _ (.head _))
    have hxy := h1 y (.head _)
    have hr : r = [] := by
      cases r with
      | nil => rfl
      | cons z r =>
        have hz := (hm z).1 (.tail _ (.tail _ (.head _)))
        have := h3 z (.head _)
        have := h1 z (.tail _ (.head _))
        omega
    subst hr
    rw [show x = a by omega, show y = b by omega]
theorem nb_two {xs ms : List Int} {l : Int} {S : Nat → Nat} (hF : Front xs ms l) (T : Tour xs ms S) {c : Nat} (hc : c < xs.length) :
    ∃ e o, e < 2 * xs.length ∧ o < 2 * xs.length ∧ e % 2 = 0 ∧ o % 2 = 1 ∧ S e / 4 = c ∧ S o / 4 = c ∧ nbL S c (2 * xs.length) = if e < o then [(e : Int), (o : Int)] else [(o : Int), (e : Int)] := by
  obtain ⟨h1, h2⟩ := muT_at hF T hc
  obtain ⟨o, o1, o2, o3⟩ := T.st.part (2 * muT xs.length S c) (by omega)
  refine ⟨2 * muT xs.length S c, o, by omega, o1, by omega, by omega, h2, by omega, ?_⟩
  have hh : 2 * muT xs.length S c < 2 * xs.length := by omega
  generalize 2 * muT xs.length S c = e at *
  · have hmem : ∀ x, x ∈ (List.range (2 * xs.length)).filter (fun j => decide (S j / 4 = c)) ↔ x = e ∨ x = o := fun x => by
      rw [List.mem_filter, List.mem_range]
      constructor
      · rintro ⟨a, b⟩
        have b := of_decide_eq_true b
        by_cases hp : x % 2 = e % 2
        · exact .inl (T.st.par x e a hh (by omega) hp)
        · exact .inr (T.st.par x o a o1 (by omega) (by omega))
      · rintro (rfl | rfl)
        · exact ⟨hh, decide_eq_true h2⟩
        · exact ⟨o1, decide_eq_true (by omega)⟩
    have hpw : ((List.range (2 * xs.length)).filter (fun j => decide (S j / 4 = c))).Pairwise (· < ·) := List.Pairwise.filter _ List.pairwise_lt_range
    unfold nbL
    by_cases hlt : e < o
    · rw [two_mem hpw hlt hmem, if_pos hlt]; rfl
    · rw [two_mem hpw (a := o) (b := e) (by omega) fun x => (hmem x).trans Or.comm, if_neg hlt]; rfl
theorem own_away {h0 h h' : Heap} {s s' t : SV} {ws : List SV} (ht : Own h0 h t ws) (hf : Fram h h' s s') (ha : Ab.Apart s t) : Own h0 h' t ws ∧ Ab.Apart s' t := by
  rcases ht with ⟨rfl, rfl⟩ | ⟨id, cap, cs, rfl, h1, h2, h3, h4⟩
  · exact ⟨.inl ⟨rfl, rfl⟩, fun j => .inr fun o n c e => by cases e⟩
  · have hn : NotAt s id := (ha id).resolve_right fun h => h _ _ _ rfl
    obtain ⟨a, b⟩ := hf id _ h2 hn
    refine ⟨.inr ⟨id, cap, cs, rfl, h1, a, h3, h4⟩, fun j => ?_⟩
    by_cases hj : j = id
    · subst hj; exact .inl b
    · exact .inr fun o n c e => hj (by cases e; rfl)
structure Nb (hb h : Heap) (N : SV) (S : Nat → Nat) (n k : Nat) : Prop where
  e : Ext hb h
  x : ∃ ss : List SV, ss.length = n ∧ Own hb h N ss ∧ (∀ (c : Nat) (s : SV), ss[c]? = some s → Own hb h s (ints (nbL S c k)) ∧ Ab.Apart s N) ∧ ∀ (c d : Nat) (s t : SV), c ≠ d → ss[c]? = some s → ss[d]? = some t → Ab.Apart s t
def I15a (hb : Heap) (q : Nat) (f N : SV) (n : Nat) (S : Nat → Nat) (E : Env) (h : Heap) : Prop := ∃ k : Nat, k ≤ 2 * n ∧ Nb hb h N S n k ∧
  E = [(1, some (.sc (.ptr q 0))), (3, some (.sc f)), (4, some (.sc N)), (5, some (.sc (.int .i64 (k : Nat))))]
def R15a (hb : Heap) (q : Nat) (f N : SV) (n : Nat) (S : Nat → Nat) (ex : Ex) (E : Env) (h : Heap) : Prop := ex = .ex 0 ∧ Nb hb h N S n (2 * n) ∧ ∃ a b,
  E = [(1, some (.sc (.ptr q 0))), (3, some (.sc f)), (4, some (.sc N)), (5, a), (22, b)]
theorem nb_push {hb h h1 h2 : Heap} {N s s' : SV} {S : Nat → Nat} {n k : Nat} {ss : List SV} (hl : ss.length = n) (hN : Own hb h N ss) (hs : ss[S k / 4]? = some s) (hall : ∀ (c : Nat) (s : SV), ss[c]? = some s → Own hb h s (ints (nbL S c k)) ∧ Ab.Apart s N)
    (hap : ∀ (c d : Nat) (s t : SV), c ≠ d → ss[c]? = some s → ss[d]? = some t → Ab.Apart s t) (ho : Own hb h1 s' (ints (nbL S (S k / 4) k) ++ [.int .i64 (k : Nat)])) (hf : Fram h h1 s s') (hN2 : Own hb h2 N (ss.set (S k / 4) s')) (he2 : Ext hb h2) (hf2 : Fram h1 h2 N N) : Nb hb h2 N S n (k + 1) := by
  have hc : S k / 4 < ss.length := (List.getElem?_eq_some_iff.1 hs).1
  obtain ⟨a1, a2⟩ := hall _ _ hs
  have aN : Ab.Apart s' N := (own_away hN hf a2).2
  have oth : ∀ d t, d ≠ S k / 4 → ss[d]? = some t → Own hb h2 t (ints (nbL S d k)) ∧ Ab.Apart t N ∧ Ab.Apart s' t := fun d t hd ht => by
    obtain ⟨b1, b2⟩ := hall d t ht
    obtain ⟨c1, c2⟩ := own_away b1 hf (hap _ _ _ _ (Ne.symm hd) hs ht)
    exact ⟨(own_away c1 hf2 b2.symm).1, b2, c2⟩
  refine ⟨he2, ss.set (S k / 4) s', by rw [List.length_set]; exact hl, hN2, fun c t ht => ?_, fun c d t u hcd ht hu => ?_⟩
  · rw [List.getElem?_set] at ht
    rw [nbL_next]
    by_cases e : S k / 4 = c
    · subst e
      rw [if_pos rfl, if_pos hc] at ht
      cases ht
      rw [if_pos rfl]
      refine ⟨?_, aN⟩
      have := (own_away ho hf2 aN.symm).1
      simpa [ints] using this
    · rw [if_neg e] at ht ⊢
      obtain ⟨x1, x2, _⟩ := oth c t (Ne.symm e) ht
      exact ⟨x1, x2⟩
  · rw [List.getElem?_set] at ht hu
    by_cases e : S k / 4 = c
    · subst e
      rw [if_pos rfl, if_pos hc] at ht
      cases ht
      rw [if_neg hcd] at hu
      exact (oth d u (Ne.symm hcd) hu).2.2
    · rw [if_neg e] at ht
      by_cases e2 : S k / 4 = d
      · subst e2
        rw [if_pos rfl, if_pos hc] at hu
        cases hu
        exact (oth c t (Ne.symm e) ht).2.2.symm
      · rw [if_neg e2] at hu
        exact hap c d t u hcd ht hu
theorem round15a (hb : Heap) (q : Nat) (f N : SV) (n : Nat) (S : Nat → Nat) (hn : n ≤ 64) (hS : ∀ j, j < 2 * n → S j < 4 * n) (hf : IsStr hb f ((List.range (2 * n)).map S)) (E : Env) (h : Heap) (hI : I15a hb q f N n S E h) :
    wA FT HK b15L0 (E.keep [1, 3, 4, 5]) h (wRound (I15a hb q f N n S) (cntD (2 * n) 5) (cntD (2 * n) 5 E h) (R15a hb q f N n S)) := by
  obtain ⟨k, hk, ⟨e, ss, hl, hN, hall, hap⟩, rfl⟩ := hI
  have lf : lenS false f = some ((2 * n : Nat) : Int) := by have := IsSl.len (hf.ext e); simpa using this
  by_cases hlt : k < 2 * n
  · have hx : ((List.range (2 * n)).map S)[k]? = some (S k) := by simp [hlt]
    obtain ⟨id, off, cap, rfl, hr⟩ := (hf.ext e).at hx
    have hSk := hS k hlt
    obtain ⟨s, hs⟩ : ∃ s, ss[S k / 4]? = some s := ⟨_, List.getElem?_eq_getElem (by omega)⟩
    obtain ⟨id2, cap2, e2, hr2⟩ := hN.rd hs
    obtain ⟨os, oa⟩ := hall _ _ hs
    have hbl : (ints (nbL S (S k / 4) k)).length ≤ 128 := by
      rw [List.length_map]
      have := nbL_len S (S k / 4) k
      omega
    have i1 : (((S k : Nat) : Int) / 4).toNat = S k / 4 := by omega
    have hll := List.length_range (n := 2 * n)
    rw [show ((List.range (2 * n)).map S).length = 2 * n by simp]
    subst e2
    rw [hl]
    rw [← i1] at hr2
    have hwr := fun (h1 : Heap) (s' : SV) (e1 : Ext hb h1) (o : Own hb h1 (.slc id2 0 ss.length cap2) ss) => Own.wr e1 o (i := S k / 4) (by omega) s'
    rw [hl] at hN hwr
    rw [← i1] at hwr
    have key := fun (h1 : Heap) (s' : SV) (ho : Own hb h1 s' (ints (nbL S (S k / 4) k) ++ [.int .i64 (k : Nat)])) (hf : Fram h h1 s s') (h2 : Heap) (hN2 : Own hb h2 (.slc id2 0 n cap2) (ss.set (((S k : Nat) : Int) / 4).toNat s')) (he2 : Ext hb h2) (hf2 : Fram h1 h2 (.slc id2 0 n cap2) (.slc id2 0 n cap2)) => nb_push (S := S) (n := n) (k := k) hl hN hs (fun c s hc => by have := hall c s hc; rwa [hl] at this) hap ho hf (by rw [← i1]; exact hN2) he2 hf2
    rw [hl] at oa
    generalize nbL S (S k / 4) k = vs at *
    generalize S k = x at *
    repeat' (first | refine w_seq ?_ | refine w_seqN ?_ | refine w_seqX ?_ | refine w_seqR ?_ | refine w_blk ?_ | refine w_blkN ?_ | refine w_blkX ?_ | refine w_blkR ?_ | refine w_skip ?_ | refine w_ret ?_ | refine w_exit ?_ | refine w_ops ?_ | refine w_opsD ?_ | refine d_one ?_ | refine d_nil ?_ | ((refine i_cond ?_); first | refine w_condT rfl ?_ | refine w_condF rfl ?_) | ((refine i_nil ?_); first | refine d_same ?_ | refine d_ord ?_ | refine d_ext ⟨_, rfl⟩ ?_ | refine d_ext (extA _ _ _) ?_ | refine d_ext (by assumption) ?_ | refine w_end0 ?_ | refine w_end1 rfl ?_ | refine w_end2 rfl rfl ?_ | refine w_end3 rfl rfl rfl ?_ | refine w_end4 rfl rfl rfl rfl ?_ | refine w_end5 rfl rfl rfl rfl rfl ?_ | refine w_end6 rfl rfl rfl rfl rfl rfl ?_ | refine w_end7 rfl rfl rfl rfl rfl rfl rfl ?_ | refine w_end8 rfl rfl rfl rfl rfl rfl rfl rfl ?_ | refine w_end9 rfl rfl rfl rfl rfl rfl rfl rfl rfl ?_ | refine w_end10 rfl rfl rfl rfl rfl rfl rfl rfl rfl rfl ?_ | refine w_end11 rfl rfl rfl rfl rfl rfl rfl rfl rfl rfl rfl ?_ | refine w_end12 rfl rfl rfl rfl rfl rfl rfl rfl rfl rfl rfl rfl ?_ | refine w_end13 rfl rfl rfl rfl rfl rfl rfl rfl rfl rfl rfl rfl rfl ?_ | refine w_end14 rfl rfl rfl rfl rfl rfl rfl rfl rfl rfl rfl rfl rfl rfl ?_ | refine w_end15 rfl rfl rfl rfl rfl rfl rfl rfl rfl rfl rfl rfl rfl rfl rfl ?_ | refine w_end16 rfl rfl rfl rfl rfl rfl rfl rfl rfl rfl rfl rfl rfl rfl rfl rfl ?_) | ((refine i_cons ?_); first | refine k_len rfl lf ?_ | (refine k_quo rfl rfl (by omega) ?_) | refine k_idxA (esz := 1) rfl rfl (by omega) ?_ | refine k_ld rfl hr ?_ | refine k_ld rfl hr2 ?_ | (refine k_push e os rfl rfl (by simp only [bigN]; omega) ?_; intro s' h1 o1 e1 f1; obtain ⟨id3, cap3, h2, e3, w2, o2, e2, f2, l2⟩ := hwr h1 s' e1 (own_away hN f1 oa).1; cases e3) | refine k_st2 rfl rfl w2 ?_ | refine k_skip rfl ?_ | refine k_skipU rfl ?_ | refine k_want rfl ?_ | refine k_mv rfl ?_ | refine k_pickT rfl rfl ?_ | refine k_pickF rfl rfl ?_ | refine k_notT rfl ?_ | refine k_notF rfl ?_ | refine k_add rfl rfl (by omega) ?_ | refine k_sub rfl rfl (by omega) ?_ | refine k_mul rfl rfl (by omega) ?_ | refine k_neg rfl (by omega) ?_ | refine k_quo rfl rfl (by omega) ?_ | refine k_rem rfl rfl (by omega) ?_ | refine k_conv rfl (by omega) ?_ | refine k_max rfl rfl ?_ | refine k_min rfl rfl ?_ | refine k_lssT rfl rfl (by omega) ?_ | refine k_lssF rfl rfl (by omega) ?_ | refine k_lss rfl rfl (fun hc => ?_) (fun hc => ?_) | refine k_leqT rfl rfl (by omega) ?_ | refine k_leqF rfl rfl (by omega) ?_ | refine k_leq rfl rfl (fun hc => ?_) (fun hc => ?_) | refine k_gtrT rfl rfl (by omega) ?_ | refine k_gtrF rfl rfl (by omega) ?_ | refine k_gtr rfl rfl (fun hc => ?_) (fun hc => ?_) | refine k_geqT rfl rfl (by omega) ?_ | refine k_geqF rfl rfl (by omega) ?_ | refine k_geq rfl rfl (fun hc => ?_) (fun hc => ?_) | refine k_eqlT rfl rfl (by omega) ?_ | refine k_eqlF rfl rfl (by omega) ?_ | refine k_eql rfl rfl (fun hc => ?_) (fun hc => ?_) | refine k_neqT rfl rfl (by omega) ?_ | refine k_neqF rfl rfl (by omega) ?_ | refine k_neq rfl rfl (fun hc => ?_) (fun hc => ?_) | refine k_len rfl rfl ?_ | refine k_ok rfl rfl ?_))
    exact w_roundN ⟨k + 1, by omega, key h1 s' o1 f1 h2 o2 e2 f2, rfl⟩ (by simp [cntD, Env.get]; omega)
  · have : k = 2 * n := by omega
    subst this
    repeat' (first | refine w_seq ?_ | refine w_seqN ?_ | refine w_seqX ?_ | refine w_seqR ?_ | refine w_blk ?_ | refine w_blkN ?_ | refine w_blkX ?_ | refine w_blkR ?_ | refine w_skip ?_ | refine w_ret ?_ | refine w_exit ?_ | refine w_ops ?_ | refine w_opsD ?_ | refine d_one ?_ | refine d_nil ?_ | ((refine i_cond ?_); first | refine w_condT rfl ?_ | refine w_condF rfl ?_) | ((refine i_nil ?_); first | refine d_same ?_ | refine d_ord ?_ | refine d_ext ⟨_, rfl⟩ ?_ | refine d_ext (extA _ _ _) ?_ | refine d_ext (by assumption) ?_ | refine w_end0 ?_ | refine w_end1 rfl ?_ | refine w_end2 rfl rfl ?_ | refine w_end3 rfl rfl rfl ?_ | refine w_end4 rfl rfl rfl rfl ?_ | refine w_end5 rfl rfl rfl rfl rfl ?_ | refine w_end6 rfl rfl rfl rfl rfl rfl ?_ | refine w_end7 rfl rfl rfl rfl rfl rfl rfl ?_ | refine w_end8 rfl rfl rfl rfl rfl rfl rfl rfl ?_ | refine w_end9 rfl rfl rfl rfl rfl rfl rfl rfl rfl ?_ | refine w_end10 rfl rfl rfl rfl rfl rfl rfl rfl rfl rfl ?_ | refine w_end11 rfl rfl rfl rfl rfl rfl rfl rfl rfl rfl rfl ?_ | refine w_end12 rfl rfl rfl rfl rfl rfl rfl rfl rfl rfl rfl rfl ?_ | refine w_end13 rfl rfl rfl rfl rfl rfl rfl rfl rfl rfl rfl rfl rfl ?_ | refine w_end14 rfl rfl rfl rfl rfl rfl rfl rfl rfl rfl rfl rfl rfl rfl ?_ | refine w_end15 rfl rfl rfl rfl rfl rfl rfl rfl rfl rfl rfl rfl rfl rfl rfl ?_ | refine w_end16 rfl rfl rfl rfl rfl rfl rfl rfl rfl rfl rfl rfl rfl rfl rfl rfl ?_) | ((refine i_cons ?_); first | refine k_len rfl lf ?_ | refine k_skip rfl ?_ | refine k_skipU rfl ?_ | refine k_want rfl ?_ | refine k_mv rfl ?_ | refine k_pickT rfl rfl ?_ | refine k_pickF rfl rfl ?_ | refine k_notT rfl ?_ | refine k_notF rfl ?_ | refine k_add rfl rfl (by omega) ?_ | refine k_sub rfl rfl (by omega) ?_ | refine k_mul rfl rfl (by omega) ?_ | refine k_neg rfl (by omega) ?_ | refine k_quo rfl rfl (by omega) ?_ | refine k_rem rfl rfl (by omega) ?_ | refine k_conv rfl (by omega) ?_ | refine k_max rfl rfl ?_ | refine k_min rfl rfl ?_ | refine k_lssT rfl rfl (by omega) ?_ | refine k_lssF rfl rfl (by omega) ?_ | refine k_lss rfl rfl (fun hc => ?_) (fun hc => ?_) | refine k_leqT rfl rfl (by omega) ?_ | refine k_leqF rfl rfl (by omega) ?_ | refine k_leq rfl rfl (fun hc => ?_) (fun hc => ?_) | refine k_gtrT rfl rfl (by omega) ?_ | refine k_gtrF rfl rfl (by omega) ?_ | refine k_gtr rfl rfl (fun hc => ?_) (fun hc => ?_) | refine k_geqT rfl rfl (by omega) ?_ | refine k_geqF rfl rfl (by omega) ?_ | refine k_geq rfl rfl (fun hc => ?_) (fun hc => ?_) | refine k_eqlT rfl rfl (by omega) ?_ | refine k_eqlF rfl rfl (by omega) ?_ | refine k_eql rfl rfl (fun hc => ?_) (fun hc => ?_) | refine k_neqT rfl rfl (by omega) ?_ | refine k_neqF rfl rfl (by omega) ?_ | refine k_neq rfl rfl (fun hc => ?_) (fun hc => ?_) | refine k_len rfl rfl ?_ | refine k_ok rfl rfl ?_))
    exact w_roundX ⟨rfl, ⟨e, ss, hl, hN, hall, hap⟩, _, _, rfl⟩
/-- The code, of the crossings below c. -/
def outR (n : Nat) (S : Nat → Nat) (c : Nat) : List Int := (List.range n).map fun i => if S (2 * i) / 4 < c then (cdD n S (2 * n)).getD i 0 else 0
theorem outR_len (n : Nat) (S : Nat → Nat) (c : Nat) : (outR n S c).length = n := by simp [outR]
theorem outR_zero (n : Nat) (S : Nat → Nat) : outR n S 0 = List.replicate n 0 := by
  refine List.ext_getElem (by simp [outR]) fun i h1 h2 => ?_
  simp [outR]
theorem outR_all {n : Nat} {S : Nat → Nat} (s : Str n S) : outR n S n = cdD n S (2 * n) := by
  have hl : (cdD n S (2 * n)).length = n := by rw [cdD_len]; omega
  refine List.ext_getElem (by rw [outR_len, hl]) fun i h1 h2 => ?_
  rw [outR_len] at h1
  have := s.lt (2 * i) (by omega)
  simp only [outR, List.getElem_map, List.getElem_range]
  rw [if_pos this, List.getD_eq_getElem?_getD, List.getElem?_eq_getElem h2]; rfl
theorem outR_next {n : Nat} {S : Nat → Nat} (s : Str n S) {c e o : Nat} (he : e < 2 * n) (ho : o < 2 * n) (h2 : e % 2 = 0) (h3 : o % 2 = 1) (h4 : S e / 4 = c) (h5 : S o / 4 = c) :
    outR n S (c + 1) = (outR n S c).set (e / 2) (if S o % 2 = 1 then -((o : Int) + 1) else (o : Int) + 1) := by
  have hv : (cdD n S (2 * n)).getD (e / 2) 0 = if S o % 2 = 1 then -((o : Int) + 1) else (o : Int) + 1 := by
    rw [cdD_at (by omega), show 2 * (e / 2) = e by omega, h4, ← h5]
    exact evD_at s h3 (Nat.le_refl _) ho
  refine List.ext_getElem (by rw [List.length_set, outR_len, outR_len]) fun i h6 h7 => ?_
  rw [outR_len] at h6
  rw [List.getElem_set]
  simp only [outR, List.getElem_map, List.getElem_range]
  by_cases hi : e / 2 = i
  · subst hi
    rw [if_pos rfl, show 2 * (e / 2) = e by omega, h4, if_pos (by omega), hv]
  · rw [if_neg hi]
    have hne : S (2 * i) / 4 ≠ c := fun h => by
      have := s.par (2 * i) e (by omega) he (by omega) (by omega)
      omega
    by_cases hlt : S (2 * i) / 4 < c
    · rw [if_pos hlt, if_pos (by omega)]
    · rw [if_neg hlt, if_neg (by omega)]
def I15b (hb : Heap) (f N u : SV) (n : Nat) (S : Nat → Nat) (E : Env) (h : Heap) : Prop := ∃ c : Nat, c ≤ n ∧ Ext hb h ∧ Own hb h u (ints (outR n S c)) ∧
  E = [(3, some (.sc f)), (4, some (.sc N)), (7, some (.sc u)), (8, some (.sc (.int .i64 (c : Nat))))]
def R15b (hb : Heap) (f N u : SV) (n : Nat) (S : Nat → Nat) (ex : Ex) (E : Env) (h : Heap) : Prop := ex = .ex 2 ∧ Ext hb h ∧ Own hb h u (ints (outR n S n)) ∧ ∃ a b c d,
  E = [(3, a), (4, b), (7, some (.sc u)), (8, c), (47, d)]
theorem round15b {xs ms : List Int} {l : Int} {S : Nat → Nat} (hF : Front xs ms l) (T : Tour xs ms S) (h0 hb : Heap) (f N u : SV) (nb : Nb h0 hb N S xs.length (2 * xs.length)) (hS : ∀ j, j < 2 * xs.length → S j < 4 * xs.length) (hf : IsStr hb f ((List.range (2 * xs.length)).map S)) (E : Env) (h : Heap) (hI : I15b hb f N u xs.length S E h) :
    wA FT HK b15L1 (E.keep [3, 4, 7, 8]) h (wRound (I15b hb f N u xs.length S) (cntD xs.length 8) (cntD xs.length 8 E h) (R15b hb f N u xs.length S)) := by
  have h64 := hF.n64
  obtain ⟨c, hc, e, ow, rfl⟩ := hI
  obtain ⟨e0, ss, hl, hN0, hall, hap⟩ := nb
  have hN := hN0.ext e
  have lN : lenS false N = some (xs.length : Int) := by have := Own.len hN; rwa [hl] at this
  have hul : (ints (outR xs.length S c)).length = xs.length := by simp [ints, outR_len]
  by_cases hlt : c < xs.length
  · obtain ⟨ev, od, h1, h2, h3, h4, h5, h6, h7⟩ := nb_two hF T hlt
    have en := outR_next T.st h1 h2 h3 h4 h5 h6
    have hx : ((List.range (2 * xs.length)).map S)[od]? = some (S od) := by simp [h2]
    obtain ⟨id, off, cap, rfl, hr⟩ := (hf.ext e).at hx
    obtain ⟨s, hs⟩ : ∃ s, ss[c]? = some s := ⟨_, List.getElem?_eq_getElem (by omega)⟩
    obtain ⟨id2, cap2, e2, hr2⟩ := hN.rd hs
    subst e2
    obtain ⟨os0, oa⟩ := hall _ _ hs
    have os := os0.ext e
    have hSo := hS od h2
    rw [show ((List.range (2 * xs.length)).map S).length = 2 * xs.length by simp, hl]
    rw [hl] at lN
    have ie : ((ev : Int) / 2).toNat = ev / 2 := by omega
    obtain ⟨id3, cap3, hh1, rfl, w2, o2, e2, f2, l2⟩ := Own.wr e ow (i := ev / 2) (by rw [hul]; omega) (.int .i64 ((od : Int) + 1))
    rw [hul] at o2 ow f2 ⊢
    rw [← ie] at w2
    have hrs : readN hh1 id (off + od * 1) 1 = some [.int .i64 (S od : Nat)] := by
      obtain ⟨i2, o2', c2, e3, r3⟩ := (hf.ext e2).at hx
      rw [show ((List.range (2 * xs.length)).map S).length = 2 * xs.length by simp] at e3
      cases e3
      exact r3
    by_cases hq : S od % 2 = 1
    · rw [if_pos hq] at en
      obtain ⟨id4, cap4, hh3, e4, w3, o3, e3, f3, l3⟩ := Own.wr e2 o2 (i := ev / 2) (by rw [List.length_set, hul]; omega) (.int .i64 (-((od : Int) + 1)))
      simp only [List.length_set, hul] at e4
      cases e4
      rw [← ie] at w3
      have hend : wRound (I15b hb (.slc id off (2 * xs.length) cap) (.slc id2 0 xs.length cap2) (.slc id3 0 xs.length cap3) xs.length S) (cntD xs.length 8) (cntD xs.length 8 [(3, some (.sc (.slc id off (2 * xs.length) cap))), (4, some (.sc (.slc id2 0 xs.length cap2))), (7, some (.sc (.slc id3 0 xs.length cap3))), (8, some (.sc (.int .i64 (c : Nat))))] h) (R15b hb (.slc id off (2 * xs.length) cap) (.slc id2 0 xs.length cap2) (.slc id3 0 xs.length cap3) xs.length S) .nm [(3, some (.sc (.slc id off (2 * xs.length) cap))), (4, some (.sc (.slc id2 0 xs.length cap2))), (7, some (.sc (.slc id3 0 xs.length cap3))), (8, some (.sc (.int .i64 ((c : Int) + 1))))] hh3 := by
        refine w_roundN ⟨c + 1, by omega, e3, ?_, rfl⟩ (by simp [cntD, Env.get]; omega)
        rw [en]
        simpa [ints, List.map_set, List.set_set] using o3
      have em : -(od : Int) - 1 = -((od : Int) + 1) := by omega
      rw [← em] at w3
      by_cases hlt2 : ev < od
      · rw [if_pos hlt2] at h7
        rw [h7] at os
        obtain ⟨id5, cap5, e5, hr5⟩ := os.rd (i := 0) (v := .int .i64 (ev : Nat)) rfl
        obtain ⟨i6, c6, e6, hr6⟩ := os.rd (i := 1) (v := .int .i64 (od : Nat)) rfl
        have e7 : s = .slc id5 0 2 cap5 := e5
        have e8 : s = .slc i6 0 2 c6 := e6
        rw [e7] at e8
        cases e8
        subst e7
        clear e5 e6
        generalize S od = x at *
        repeat' (first | refine w_seq ?_ | refine w_seqN ?_ | refine w_seqX ?_ | refine w_seqR ?_ | refine w_blk ?_ | refine w_blkN ?_ | refine w_blkX ?_ | refine w_blkR ?_ | refine w_skip ?_ | refine w_ret ?_ | refine w_exit ?_ | refine w_ops ?_ | refine w_opsD ?_ | refine d_one ?_ | refine d_nil ?_ | ((refine i_cond ?_); first | refine w_condT rfl ?_ | refine w_condF rfl ?_) | ((refine i_nil ?_); first | refine d_same ?_ | refine d_ord ?_ | refine d_ext ⟨_, rfl⟩ ?_ | refine d_ext (extA _ _ _) ?_ | refine d_ext (by assumption) ?_ | refine w_end0 ?_ | refine w_end1 rfl ?_ | refine w_end2 rfl rfl ?_ | refine w_end3 rfl rfl rfl ?_ | refine w_end4 rfl rfl rfl rfl ?_ | refine w_end5 rfl rfl rfl rfl rfl ?_ | refine w_end6 rfl rfl rfl rfl rfl rfl ?_ | refine w_end7 rfl rfl rfl rfl rfl rfl rfl ?_ | refine w_end8 rfl rfl rfl rfl rfl rfl rfl rfl ?_ | refine w_end9 rfl rfl rfl rfl rfl rfl rfl rfl rfl ?_ | refine w_end10 rfl rfl rfl rfl rfl rfl rfl rfl rfl rfl ?_ | refine w_end11 rfl rfl rfl rfl rfl rfl rfl rfl rfl rfl rfl ?_ | refine w_end12 rfl rfl rfl rfl rfl rfl rfl rfl rfl rfl rfl rfl ?_ | refine w_end13 rfl rfl rfl rfl rfl rfl rfl rfl rfl rfl rfl rfl rfl ?_ | refine w_end14 rfl rfl rfl rfl rfl rfl rfl rfl rfl rfl rfl rfl rfl rfl ?_ | refine w_end15 rfl rfl rfl rfl rfl rfl rfl rfl rfl rfl rfl rfl rfl rfl rfl ?_ | refine w_end16 rfl rfl rfl rfl rfl rfl rfl rfl rfl rfl rfl rfl rfl rfl rfl rfl ?_) | ((refine i_cons ?_); first | refine k_len rfl lN ?_ | refine k_idxA (esz := 1) rfl rfl (by omega) ?_ | refine k_ld rfl hr2 ?_ | refine k_ld rfl hr5 ?_ | refine k_ld rfl hr6 ?_ | refine k_ld rfl hrs ?_ | refine k_st rfl rfl w2 ?_ | refine k_st rfl rfl w3 ?_ | (refine k_quo rfl rfl (by omega) ?_) | (refine k_rem rfl rfl (by omega) ?_) | refine k_skip rfl ?_ | refine k_skipU rfl ?_ | refine k_want rfl ?_ | refine k_mv rfl ?_ | refine k_pickT rfl rfl ?_ | refine k_pickF rfl rfl ?_ | refine k_notT rfl ?_ | refine k_notF rfl ?_ | refine k_add rfl rfl (by omega) ?_ | refine k_sub rfl rfl (by omega) ?_ | refine k_mul rfl rfl (by omega) ?_ | refine k_neg rfl (by omega) ?_ | refine k_quo rfl rfl (by omega) ?_ | refine k_rem rfl rfl (by omega) ?_ | refine k_conv rfl (by omega) ?_ | refine k_max rfl rfl ?_ | refine k_min rfl rfl ?_ | refine k_lssT rfl rfl (by omega) ?_ | refine k_lssF rfl rfl (by omega) ?_ | refine k_lss rfl rfl (fun hc => ?_) (fun hc => ?_) | refine k_leqT rfl rfl (by omega) ?_ | refine k_leqF rfl rfl (by omega) ?_ | refine k_leq rfl rfl (fun hc => ?_) (fun hc => ?_) | refine k_gtrT rfl rfl (by omega) ?_ | refine k_gtrF rfl rfl (by omega) ?_ | refine k_gtr rfl rfl (fun hc => ?_) (fun hc => ?_) | refine k_geqT rfl rfl (by omega) ?_ | refine k_geqF rfl rfl (by omega) ?_ | refine k_geq rfl rfl (fun hc => ?_) (fun hc => ?_) | refine k_eqlT rfl rfl (by omega) ?_ | refine k_eqlF rfl rfl (by omega) ?_ | refine k_eql rfl rfl (fun hc => ?_) (fun hc => ?_) | refine k_neqT rfl rfl (by omega) ?_ | refine k_neqF rfl rfl (by omega) ?_ | refine k_neq rfl rfl (fun hc => ?_) (fun hc => ?_) | refine k_len rfl rfl ?_ | refine k_ok rfl rfl ?_))
        exact hend
      · rw [if_neg hlt2] at h7
        rw [h7] at os
        obtain ⟨id5, cap5, e5, hr5⟩ := os.rd (i := 0) (v := .int .i64 (od : Nat)) rfl
        obtain ⟨i6, c6, e6, hr6⟩ := os.rd (i := 1) (v := .int .i64 (ev : Nat)) rfl
        have e7 : s = .slc id5 0 2 cap5 := e5
        have e8 : s = .slc i6 0 2 c6 := e6
        rw [e7] at e8
        cases e8
        subst e7
        clear e5 e6
        generalize S od = x at *
        repeat' (first | refine w_seq ?_ | refine w_seqN ?_ | refine w_seqX ?_ | refine w_seqR ?_ | refine w_blk ?_ | refine w_blkN ?_ | refine w_blkX ?_ | refine w_blkR ?_ | refine w_skip ?_ | refine w_ret ?_ | refine w_exit ?_ | refine w_ops ?_ | refine w_opsD ?_ | refine d_one ?_ | refine d_nil ?_ | ((refine i_cond ?_); first | refine w_condT rfl ?_ | refine w_condF rfl ?_) | ((refine i_nil ?_); first | refine d_same ?_ | refine d_ord ?_ | refine d_ext ⟨_, rfl⟩ ?_ | refine d_ext (extA _ _ _) ?_ | refine d_ext (by assumption) ?_ | refine w_end0 ?_ | refine w_end1 rfl ?_ | refine w_end2 rfl rfl ?_ | refine w_end3 rfl rfl rfl ?_ | refine w_end4 rfl rfl rfl rfl ?_ | refine w_end5 rfl rfl rfl rfl rfl ?_ | refine w_end6 rfl rfl rfl rfl rfl rfl ?_ | refine w_end7 rfl rfl rfl rfl rfl rfl rfl ?_ | refine w_end8 rfl rfl rfl rfl rfl rfl rfl rfl ?_ | refine w_end9 rfl rfl rfl rfl rfl rfl rfl rfl rfl ?_ | refine w_end10 rfl rfl rfl rfl rfl rfl rfl rfl rfl rfl ?_ | refine w_end11 rfl rfl rfl rfl rfl rfl rfl rfl rfl rfl rfl ?_ | refine w_end12 rfl rfl rfl rfl rfl rfl rfl rfl rfl rfl rfl rfl ?_ | refine w_end13 rfl rfl rfl rfl rfl rfl rfl rfl rfl rfl rfl rfl rfl ?_ | refine w_end14 rfl rfl rfl rfl rfl rfl rfl rfl rfl rfl rfl rfl rfl rfl ?_ | refine w_end15 rfl rfl rfl rfl rfl rfl rfl rfl rfl rfl rfl rfl rfl rfl rfl ?_ | refine w_end16 rfl rfl rfl rfl rfl rfl rfl rfl rfl rfl rfl rfl rfl rfl rfl rfl ?_) | ((refine i_cons ?_); first | refine k_len rfl lN ?_ | refine k_idxA (esz := 1) rfl rfl (by omega) ?_ | refine k_ld rfl hr2 ?_ | refine k_ld rfl hr5 ?_ | refine k_ld rfl hr6 ?_ | refine k_ld rfl hrs ?_ | refine k_st rfl rfl w2 ?_ | refine k_st rfl rfl w3 ?_ | (refine k_quo rfl rfl (by omega) ?_) | (refine k_rem rfl rfl (by omega) ?_) | refine k_skip rfl ?_ | refine k_skipU rfl ?_ | refine k_want rfl ?_ | refine k_mv rfl ?_ | refine k_pickT rfl rfl ?_ | refine k_pickF rfl rfl ?_ | refine k_notT rfl ?_ | refine k_notF rfl ?_ | refine k_add rfl rfl (by omega) ?_ | refine k_sub rfl rfl (by omega) ?_ | refine k_mul rfl rfl (by omega) ?_ | refine k_neg rfl (by omega) ?_ | refine k_quo rfl rfl (by omega) ?_ | refine k_rem rfl rfl (by omega) ?_ | refine k_conv rfl (by omega) ?_ | refine k_max rfl rfl ?_ | refine k_min rfl rfl ?_ | refine k_lssT rfl rfl (by omega) ?_ | refine k_lssF rfl rfl (by omega) ?_ | refine k_lss rfl rfl (fun hc => ?_) (fun hc => ?_) | refine k_leqT rfl rfl (by omega) ?_ | refine k_leqF rfl rfl (by omega) ?_ | refine k_leq rfl rfl (fun hc => ?_) (fun hc => ?_) | refine k_gtrT rfl rfl (by omega) ?_ | refine k_gtrF rfl rfl (by omega) ?_ | refine k_gtr rfl rfl (fun hc => ?_) (fun hc => ?_) | refine k_geqT rfl rfl (by omega) ?_ | refine k_geqF rfl rfl (by omega) ?_ | refine k_geq rfl rfl (fun hc => ?_) (fun hc => ?_) | refine k_eqlT rfl rfl (by omega) ?_ | refine k_eqlF rfl rfl (by omega) ?_ | refine k_eql rfl rfl (fun hc => ?_) (fun hc => ?_) | refine k_neqT rfl rfl (by omega) ?_ | refine k_neqF rfl rfl (by omega) ?_ | refine k_neq rfl rfl (fun hc => ?_) (fun hc => ?_) | refine k_len rfl rfl ?_ | refine k_ok rfl rfl ?_))
        exact hend
    · rw [if_neg hq] at en
      have hend : wRound (I15b hb (.slc id off (2 * xs.length) cap) (.slc id2 0 xs.length cap2) (.slc id3 0 xs.length cap3) xs.length S) (cntD xs.length 8) (cntD xs.length 8 [(3, some (.sc (.slc id off (2 * xs.length) cap))), (4, some (.sc (.slc id2 0 xs.length cap2))), (7, some (.sc (.slc id3 0 xs.length cap3))), (8, some (.sc (.int .i64 (c : Nat))))] h) (R15b hb (.slc id off (2 * xs.length) cap) (.slc id2 0 xs.length cap2) (.slc id3 0 xs.length cap3) xs.length S) .nm [(3, some (.sc (.slc id off (2 * xs.length) cap))), (4, some (.sc (.slc id2 0 xs.length cap2))), (7, some (.sc (.slc id3 0 xs.length cap3))), (8, some (.sc (.int .i64 ((c : Int) + 1))))] hh1 := by
        refine w_roundN ⟨c + 1, by omega, e2, ?_, rfl⟩ (by simp [cntD, Env.get]; omega)
        rw [en]
        simpa [ints, List.map_set] using o2
      by_cases hlt2 : ev < od
      · rw [if_pos hlt2] at h7
        rw [h7] at os
        obtain ⟨id5, cap5, e5, hr5⟩ := os.rd (i := 0) (v := .int .i64 (ev : Nat)) rfl
        obtain ⟨i6, c6, e6, hr6⟩ := os.rd (i := 1) (v := .int .i64 (od : Nat)) rfl
        have e7 : s = .slc id5 0 2 cap5 := e5
        have e8 : s = .slc i6 0 2 c6 := e6
        rw [e7] at e8
        cases e8
        subst e7
        clear e5 e6
        generalize S od = x at *
        repeat' (first | refine w_seq ?_ | refine w_seqN ?_ | refine w_seqX ?_ | refine w_seqR ?_ | refine w_blk ?_ | refine w_blkN ?_ | refine w_blkX ?_ | refine w_blkR ?_ | refine w_skip ?_ | refine w_ret ?_ | refine w_exit ?_ | refine w_ops ?_ | refine w_opsD ?_ | refine d_one ?_ | refine d_nil ?_ | ((refine i_cond ?_); first | refine w_condT rfl ?_ | refine w_condF rfl ?_) | ((refine i_nil ?_); first | refine d_same ?_ | refine d_ord ?_ | refine d_ext ⟨_, rfl⟩ ?_ | refine d_ext (extA _ _ _) ?_ | refine d_ext (by assumption) ?_ | refine w_end0 ?_ | refine w_end1 rfl ?_ | refine w_end2 rfl rfl ?_ | refine w_end3 rfl rfl rfl ?_ | refine w_end4 rfl rfl rfl rfl ?_ | refine w_end5 rfl rfl rfl rfl rfl ?_ | refine w_end6 rfl rfl rfl rfl rfl rfl ?_ | refine w_end7 rfl rfl rfl rfl rfl rfl rfl ?_ | refine w_end8 rfl rfl rfl rfl rfl rfl rfl rfl ?_ | refine w_end9 rfl rfl rfl rfl rfl rfl rfl rfl rfl ?_ | refine w_end10 rfl rfl rfl rfl rfl rfl rfl rfl rfl rfl ?_ | refine w_end11 rfl rfl rfl rfl rfl rfl rfl rfl rfl rfl rfl ?_ | refine w_end12 rfl rfl rfl rfl rfl rfl rfl rfl rfl rfl rfl rfl ?_ | refine w_end13 rfl rfl rfl rfl rfl rfl rfl rfl rfl rfl rfl rfl rfl ?_ | refine w_end14 rfl rfl rfl rfl rfl rfl rfl rfl rfl rfl rfl rfl rfl rfl ?_ | refine w_end15 rfl rfl rfl rfl rfl rfl rfl rfl rfl rfl rfl rfl rfl rfl rfl ?_ | refine w_end16 rfl rfl rfl rfl rfl rfl rfl rfl rfl rfl rfl rfl rfl rfl rfl rfl ?_) | ((refine i_cons ?_); first | refine k_len rfl lN ?_ | refine k_idxA (esz := 1) rfl rfl (by omega) ?_ | refine k_ld rfl hr2 ?_ | refine k_ld rfl hr5 ?_ | refine k_ld rfl hr6 ?_ | refine k_ld rfl hrs ?_ | refine k_st rfl rfl w2 ?_ | (refine k_quo rfl rfl (by omega) ?_) | (refine k_rem rfl rfl (by omega) ?_) | refine k_skip rfl ?_ | refine k_skipU rfl ?_ | refine k_want rfl ?_ | refine k_mv rfl ?_ | refine k_pickT rfl rfl ?_ | refine k_pickF rfl rfl ?_ | refine k_notT rfl ?_ | refine k_notF rfl ?_ | refine k_add rfl rfl (by omega) ?_ | refine k_sub rfl rfl (by omega) ?_ | refine k_mul rfl rfl (by omega) ?_ | refine k_neg rfl (by omega) ?_ | refine k_quo rfl rfl (by omega) ?_ | refine k_rem rfl rfl (by omega) ?_ | refine k_conv rfl (by omega) ?_ | refine k_max rfl rfl ?_ | refine k_min rfl rfl ?_ | refine k_lssT rfl rfl (by omega) ?_ | refine k_lssF rfl rfl (by omega) ?_ | refine k_lss rfl rfl (fun hc => ?_) (fun hc => ?_) | refine k_leqT rfl rfl (by omega) ?_ | refine k_leqF rfl rfl (by omega) ?_ | refine k_leq rfl rfl (fun hc => ?_) (fun hc => ?_) | refine k_gtrT rfl rfl (by omega) ?_ | refine k_gtrF rfl rfl (by omega) ?_ | refine k_gtr rfl rfl (fun hc => ?_) (fun hc => ?_) | refine k_geqT rfl rfl (by omega) ?_ | refine k_geqF rfl rfl (by omega) ?_ | refine k_geq rfl rfl (fun hc => ?_) (fun hc => ?_) | refine k_eqlT rfl rfl (by omega) ?_ | refine k_eqlF rfl rfl (by omega) ?_ | refine k_eql rfl rfl (fun hc => ?_) (fun hc => ?_) | refine k_neqT rfl rfl (by omega) ?_ | refine k_neqF rfl rfl (by omega) ?_ | refine k_neq rfl rfl (fun hc => ?_) (fun hc => ?_) | refine k_len rfl rfl ?_ | refine k_ok rfl rfl ?_))
        exact hend
      · rw [if_neg hlt2] at h7
        rw [h7] at os
        obtain ⟨id5, cap5, e5, hr5⟩ := os.rd (i := 0) (v := .int .i64 (od : Nat)) rfl
        obtain ⟨i6, c6, e6, hr6⟩ := os.rd (i := 1) (v := .int .i64 (ev : Nat)) rfl
        have e7 : s = .slc id5 0 2 cap5 := e5
        have e8 : s = .slc i6 0 2 c6 := e6
        rw [e7] at e8
        cases e8
        subst e7
        clear e5 e6
        generalize S od = x at *
        repeat' (first | refine w_seq ?_ | refine w_seqN ?_ | refine w_seqX ?_ | refine w_seqR ?_ | refine w_blk ?_ | refine w_blkN ?_ | refine w_blkX ?_ | refine w_blkR ?_ | refine w_skip ?_ | refine w_ret ?_ | refine w_exit ?_ | refine w_ops ?_ | refine w_opsD ?_ | refine d_one ?_ | refine d_nil ?_ | ((refine i_cond ?_); first | refine w_condT rfl ?_ | refine w_condF rfl ?_) | ((refine i_nil ?_); first | refine d_same ?_ | refine d_ord ?_ | refine d_ext ⟨_, rfl⟩ ?_ | refine d_ext (extA _ _ _) ?_ | refine d_ext (by assumption) ?_ | refine w_end0 ?_ | refine w_end1 rfl ?_ | refine w_end2 rfl rfl ?_ | refine w_end3 rfl rfl rfl ?_ | refine w_end4 rfl rfl rfl rfl ?_ | refine w_end5 rfl rfl rfl rfl rfl ?_ | refine w_end6 rfl rfl rfl rfl rfl rfl ?_ | refine w_end7 rfl rfl rfl rfl rfl rfl rfl ?_ | refine w_end8 rfl rfl rfl rfl rfl rfl rfl rfl ?_ | refine w_end9 rfl rfl rfl rfl rfl rfl rfl rfl rfl ?_ | refine w_end10 rfl rfl rfl rfl rfl rfl rfl rfl rfl rfl ?_ | refine w_end11 rfl rfl rfl rfl rfl rfl rfl rfl rfl rfl rfl ?_ | refine w_end12 rfl rfl rfl rfl rfl rfl rfl rfl rfl rfl rfl rfl ?_ | refine w_end13 rfl rfl rfl rfl rfl rfl rfl rfl rfl rfl rfl rfl rfl ?_ | refine w_end14 rfl rfl rfl rfl rfl rfl rfl rfl rfl rfl rfl rfl rfl rfl ?_ | refine w_end15 rfl rfl rfl rfl rfl rfl rfl rfl rfl rfl rfl rfl rfl rfl rfl ?_ | refine w_end16 rfl rfl rfl rfl rfl rfl rfl rfl rfl rfl rfl rfl rfl rfl rfl rfl ?_) | ((refine i_cons ?_); first | refine k_len rfl lN ?_ | refine k_idxA (esz := 1) rfl rfl (by omega) ?_ | refine k_ld rfl hr2 ?_ | refine k_ld rfl hr5 ?_ | refine k_ld rfl hr6 ?_ | refine k_ld rfl hrs ?_ | refine k_st rfl rfl w2 ?_ | (refine k_quo rfl rfl (by omega) ?_) | (refine k_rem rfl rfl (by omega) ?_) | refine k_skip rfl ?_ | refine k_skipU rfl ?_ | refine k_want rfl ?_ | refine k_mv rfl ?_ | refine k_pickT rfl rfl ?_ | refine k_pickF rfl rfl ?_ | refine k_notT rfl ?_ | refine k_notF rfl ?_ | refine k_add rfl rfl (by omega) ?_ | refine k_sub rfl rfl (by omega) ?_ | refine k_mul rfl rfl (by omega) ?_ | refine k_neg rfl (by omega) ?_ | refine k_quo rfl rfl (by omega) ?_ | refine k_rem rfl rfl (by omega) ?_ | refine k_conv rfl (by omega) ?_ | refine k_max rfl rfl ?_ | refine k_min rfl rfl ?_ | refine k_lssT rfl rfl (by omega) ?_ | refine k_lssF rfl rfl (by omega) ?_ | refine k_lss rfl rfl (fun hc => ?_) (fun hc => ?_) | refine k_leqT rfl rfl (by omega) ?_ | refine k_leqF rfl rfl (by omega) ?_ | refine k_leq rfl rfl (fun hc => ?_) (fun hc => ?_) | refine k_gtrT rfl rfl (by omega) ?_ | refine k_gtrF rfl rfl (by omega) ?_ | refine k_gtr rfl rfl (fun hc => ?_) (fun hc => ?_) | refine k_geqT rfl rfl (by omega) ?_ | refine k_geqF rfl rfl (by omega) ?_ | refine k_geq rfl rfl (fun hc => ?_) (fun hc => ?_) | refine k_eqlT rfl rfl (by omega) ?_ | refine k_eqlF rfl rfl (by omega) ?_ | refine k_eql rfl rfl (fun hc => ?_) (fun hc => ?_) | refine k_neqT rfl rfl (by omega) ?_ | refine k_neqF rfl rfl (by omega) ?_ | refine k_neq rfl rfl (fun hc => ?_) (fun hc => ?_) | refine k_len rfl rfl ?_ | refine k_ok rfl rfl ?_))
        exact hend
  · have : c = xs.length := by omega
    subst this
    repeat' (first | refine w_seq ?_ | refine w_seqN ?_ | refine w_seqX ?_ | refine w_seqR ?_ | refine w_blk ?_ | refine w_blkN ?_ | refine w_blkX ?_ | refine w_blkR ?_ | refine w_skip ?_ | refine w_ret ?_ | refine w_exit ?_ | refine w_ops ?_ | refine w_opsD ?_ | refine d_one ?_ | refine d_nil ?_ | ((refine i_cond ?_); first | refine w_condT rfl ?_ | refine w_condF rfl ?_) | ((refine i_nil ?_); first | refine d_same ?_ | refine d_ord ?_ | refine d_ext ⟨_, rfl⟩ ?_ | refine d_ext (extA _ _ _) ?_ | refine d_ext (by assumption) ?_ | refine w_end0 ?_ | refine w_end1 rfl ?_ | refine w_end2 rfl rfl ?_ | refine w_end3 rfl rfl rfl ?_ | refine w_end4 rfl rfl rfl rfl ?_ | refine w_end5 rfl rfl rfl rfl rfl ?_ | refine w_end6 rfl rfl rfl rfl rfl rfl ?_ | refine w_end7 rfl rfl rfl rfl rfl rfl rfl ?_ | refine w_end8 rfl rfl rfl rfl rfl rfl rfl rfl ?_ | refine w_end9 rfl rfl rfl rfl rfl rfl rfl rfl rfl ?_ | refine w_end10 rfl rfl rfl rfl rfl rfl rfl rfl rfl rfl ?_ | refine w_end11 rfl rfl rfl rfl rfl rfl rfl rfl rfl rfl rfl ?_ | refine w_end12 rfl rfl rfl rfl rfl rfl rfl rfl rfl rfl rfl rfl ?_ | refine w_end13 rfl rfl rfl rfl rfl rfl rfl rfl rfl rfl rfl rfl rfl ?_ | refine w_end14 rfl rfl rfl rfl rfl rfl rfl rfl rfl rfl rfl rfl rfl rfl ?_ | refine w_end15 rfl rfl rfl rfl rfl rfl rfl rfl rfl rfl rfl rfl rfl rfl rfl ?_ | refine w_end16 rfl rfl rfl rfl rfl rfl rfl rfl rfl rfl rfl rfl rfl rfl rfl rfl ?_) | ((refine i_cons ?_); first | refine k_len rfl lN ?_ | refine k_skip rfl ?_ | refine k_skipU rfl ?_ | refine k_want rfl ?_ | refine k_mv rfl ?_ | refine k_pickT rfl rfl ?_ | refine k_pickF rfl rfl ?_ | refine k_notT rfl ?_ | refine k_notF rfl ?_ | refine k_add rfl rfl (by omega) ?_ | refine k_sub rfl rfl (by omega) ?_ | refine k_mul rfl rfl (by omega) ?_ | refine k_neg rfl (by omega) ?_ | refine k_quo rfl rfl (by omega) ?_ | refine k_rem rfl rfl (by omega) ?_ | refine k_conv rfl (by omega) ?_ | refine k_max rfl rfl ?_ | refine k_min rfl rfl ?_ | refine k_lssT rfl rfl (by omega) ?_ | refine k_lssF rfl rfl (by omega) ?_ | refine k_lss rfl rfl (fun hc => ?_) (fun hc => ?_) | refine k_leqT rfl rfl (by omega) ?_ | refine k_leqF rfl rfl (by omega) ?_ | refine k_leq rfl rfl (fun hc => ?_) (fun hc => ?_) | refine k_gtrT rfl rfl (by omega) ?_ | refine k_gtrF rfl rfl (by omega) ?_ | refine k_gtr rfl rfl (fun hc => ?_) (fun hc => ?_) | refine k_geqT rfl rfl (by omega) ?_ | refine k_geqF rfl rfl (by omega) ?_ | refine k_geq rfl rfl (fun hc => ?_) (fun hc => ?_) | refine k_eqlT rfl rfl (by omega) ?_ | refine k_eqlF rfl rfl (by omega) ?_ | refine k_eql rfl rfl (fun hc => ?_) (fun hc => ?_) | refine k_neqT rfl rfl (by omega) ?_ | refine k_neqF rfl rfl (by omega) ?_ | refine k_neq rfl rfl (fun hc => ?_) (fun hc => ?_) | refine k_len rfl rfl ?_ | refine k_ok rfl rfl ?_))
    exact w_roundX ⟨rfl, e, ow, _, _, _, _, rfl⟩
end Go.Proofs.Ytooafhbjbpaacaa
