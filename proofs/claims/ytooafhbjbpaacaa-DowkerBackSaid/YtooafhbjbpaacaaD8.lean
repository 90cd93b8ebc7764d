/- The reference's Of: contract. -/
import Derived.Test.YtooafhbjbpaacaaD7
import Derived.Test.YtooafhbjbpaacaaS4
import Derived.Test.YtooafhbjbpaacaaDP11
namespace Go.Proofs.Ytooafhbjbpaacaa
open Go.Ab
set_option linter.unusedVariables false
set_option linter.unusedSimpArgs false
set_option maxRecDepth 20000
set_option maxHeartbeats 4000000
attribute [local irreducible] wOps wA wSeq wBlk wRound wRoundI wOpsD wOpsS
variable {HK : FuncId → Option Hook}

/-- The passages of the crossing c among the first k. -/
def nbL (S : Nat → Nat) (c k : Nat) : List Int := ((List.range k).filter fun j => decide (S j / 4 = c)).map fun j : Nat => (j : Int)
theorem nbL_next (S : Nat → Nat) (c k : Nat) : nbL S c (k + 1) = if S k / 4 = c then nbL S c k ++ [(k : Int)] else nbL S c k := by
  unfold nbL
  rw [List.range_succ, List.filter_append, List.map_append]
  by_cases h : S k / 4 = c
  · rw [if_pos h]; simp [h]
  · rw [if_neg h]; simp [h]
theorem nbL_len (S : Nat → Nat) (c k : Nat) : (nbL S c k).length ≤ k := by
  unfold nbL
  rw [List.length_map]
  exact Nat.le_trans (List.length_filter_le _ _) (by simp)
theorem two_mem {l : List Nat} {a b : Nat} (hp : l.Pairwise (· < ·)) (hab : a < b) (hm : ∀ x, x ∈ l ↔ x = a ∨ x = b) : l = [a, b] := by
  match l with
  | [] => exact absurd ((hm a).2 (.inl rfl)) (by simp)
  | [x] =>
    have h1 := (hm a).2 (.inl rfl)
    have h2 := (hm b).2 (.inr rfl)
    simp at h1 h2; omega
  | x :: y :: r =>
    obtain ⟨h1, h2⟩ := List.pairwise_cons.1 hp
    obtain ⟨h3, h4⟩ := List.pairwise_cons.1 h2
    have hx := (hm x).1 (.head _)
    have hy := (hm y).1 (.tail _ (.head _))
    have hxy := h1 y (.head _)
    have hr : r = [] := by
      cases r with
      | nil => rfl
      | cons z r =>
        have hz := (hm z).1 (.tail _ (.tail _ (.head _)))
        have := h3 z (.head _)
        have := h1 z (.tail _ (.head _))
        omega
    subst hr
    rw [show x = a by omega, show y = b by omega]
theorem nb_two {xs ms : List Int} {l : Int} {S : Nat → Nat} (hF : Front xs ms l) (T : Tour xs ms S) {c : Nat} (hc : c < xs.length) :
    ∃ e o, e < 2 * xs.length ∧ o < 2 * xs.length ∧ e % 2 = 0 ∧ o % 2 = 1 ∧ S e / 4 = c ∧ S o / 4 = c ∧ nbL S c (2 * xs.length) = if e < o then [(e : Int), (o : Int)] else [(o : Int), (e : Int)] := by
  obtain ⟨h1, h2⟩ := muT_at hF T hc
  obtain ⟨o, o1, o2, o3⟩ := T.st.part (2 * muT xs.length S c) (by omega)
  refine ⟨2 * muT xs.length S c, o, by omega, o1, by omega, by omega, h2, by omega, ?_⟩
  have hh : 2 * muT xs.length S c < 2 * xs.length := by omega
  generalize 2 * muT xs.length S c = e at *
  · have hmem : ∀ x, x ∈ (List.range (2 * xs.length)).filter (fun j => decide (S j / 4 = c)) ↔ x = e ∨ x = o := fun x => by
      rw [List.mem_filter, List.mem_range]
      constructor
      · rintro ⟨a, b⟩
        have b := of_decide_eq_true b
        by_cases hp : x % 2 = e % 2
        · exact .inl (T.st.par x e a hh (by omega) hp)
        · exact .inr (T.st.par x o a o1 (by omega) (by omega))
      · rintro (rfl | rfl)
        · exact ⟨hh, decide_eq_true h2⟩
        · exact ⟨o1, decide_eq_true (by omega)⟩
    have hpw : ((List.range (2 * xs.length)).filter (fun j => decide (S j / 4 = c))).Pairwise (· < ·) := List.Pairwise.filter _ List.pairwise_lt_range
    unfold nbL
    by_cases hlt : e < o
    · rw [two_mem hpw hlt hmem, if_pos hlt]; rfl
    · rw [two_mem hpw (a := o) (b := e) (by omega) fun x => (hmem x).trans Or.comm, if_neg hlt]; rfl
theorem own_away {h0 h h' : Heap} {s s' t : SV} {ws : List SV} (ht : Own h0 h t ws) (hf : Fram h h' s s') (ha : Ab.Apart s t) : Own h0 h' t ws ∧ Ab.Apart s' t := by
  rcases ht with ⟨rfl, rfl⟩ | ⟨id, cap, cs, rfl, h1, h2, h3, h4⟩
  · exact ⟨.inl ⟨rfl, rfl⟩, fun j => .inr fun o n c e => by cases e⟩
  · have hn : NotAt s id := (ha id).resolve_right fun h => h _ _ _ rfl
    obtain ⟨a, b⟩ := hf id _ h2 hn
    refine ⟨.inr ⟨id, cap, cs, rfl, h1, a, h3, h4⟩, fun j => ?_⟩
    by_cases hj : j = id
    · subst hj; exact .inl b
    · exact .inr fun o n c e => hj (by cases e; rfl)
structure Nb (hb h : Heap) (N : SV) (S : Nat → Nat) (n k : Nat) : Prop where
  e : Ext hb h
  x : ∃ ss : List SV, ss.length = n ∧ Own hb h N ss ∧ (∀ (c : Nat) (s : SV), ss[c]? = some s → Own hb h s (ints (nbL S c k)) ∧ Ab.Apart s N) ∧ ∀ (c d : Nat) (s t : SV), c ≠ d → ss[c]? = some s → ss[d]? = some t → Ab.Apart s t
def I15a (hb : Heap) (q : Nat) (f N : SV) (n : Nat) (S : Nat → Nat) (E : Env) (h : Heap) : Prop := ∃ k : Nat, k ≤ 2 * n ∧ Nb hb h N S n k ∧
  E = [(1, some (.sc (.ptr q 0))), (3, some (.sc f)), (4, some (.sc N)), (5, some (.sc (.int .i64 (k : Nat))))]
def R15a (hb : Heap) (q : Nat) (f N : SV) (n : Nat) (S : Nat → Nat) (ex : Ex) (E : Env) (h : Heap) : Prop := ex = .ex 0 ∧ Nb hb h N S n (2 * n) ∧ ∃ a b,
  E = [(1, some (.sc (.ptr q 0))), (3, some (.sc f)), (4, some (.sc N)), (5, a), (22, b)]
theorem nb_push {hb h h1 h2 : Heap} {N s s' : SV} {S : Nat → Nat} {n k : Nat} {ss : List SV} (hl : ss.length = n) (hN : Own hb h N ss) (hs : ss[S k / 4]? = some s) (hall : ∀ (c : Nat) (s : SV), ss[c]? = some s → Own hb h s (ints (nbL S c k)) ∧ Ab.Apart s N)
    (hap : ∀ (c d : Nat) (s t : SV), c ≠ d → ss[c]? = some s → ss[d]? = some t → Ab.Apart s t) (ho : Own hb h1 s' (ints (nbL S (S k / 4) k) ++ [.int .i64 (k : Nat)])) (hf : Fram h h1 s s') (hN2 : Own hb h2 N (ss.set (S k / 4) s')) (he2 : Ext hb h2) (hf2 : Fram h1 h2 N N) : Nb hb h2 N S n (k + 1) := by
  have hc : S k / 4 < ss.length := (List.getElem?_eq_some_iff.1 hs).1
  obtain ⟨a1, a2⟩ := hall _ _ hs
  have aN : Ab.Apart s' N := (own_away hN hf a2).2
  have oth : ∀ d t, d ≠ S k / 4 → ss[d]? = some t → Own hb h2 t (ints (nbL S d k)) ∧ Ab.Apart t N ∧ Ab.Apart s' t := fun d t hd ht => by
    obtain ⟨b1, b2⟩ := hall d t ht
    obtain ⟨c1, c2⟩ := own_away b1 hf (hap _ _ _ _ (Ne.symm hd) hs ht)
    exact ⟨(own_away c1 hf2 b2.symm).1, b2, c2⟩
  refine ⟨he2, ss.set (S k / 4) s', by rw [List.length_set]; exact hl, hN2, fun c t ht => ?_, fun c d t u hcd ht hu => ?_⟩
  · rw [List.getElem?_set] at ht
    rw [nbL_next]
    by_cases e : S k / 4 = c
    · subst e
      rw [if_pos rfl, if_pos hc] at ht
      cases ht
      rw [if_pos rfl]
      refine ⟨?_, aN⟩
      have := (own_away ho hf2 aN.symm).1
      simpa [ints] using this
    · rw [if_neg e] at ht ⊢
      obtain ⟨x1, x2, _⟩ := oth c t (Ne.symm e) ht
      exact ⟨x1, x2⟩
  · rw [List.getElem?_set] at ht hu
    by_cases e : S k / 4 = c
    · subst e
      rw [if_pos rfl, if_pos hc] at ht
      cases ht
      rw [if_neg hcd] at hu
      exact (oth d u (Ne.symm hcd) hu).2.2
    · rw [if_neg e] at ht
      by_cases e2 : S k / 4 = d
      · subst e2
        rw [if_pos rfl, if_pos hc] at hu
        cases hu
        exact (oth c t (Ne.symm e) ht).2.2.symm
      · rw [if_neg e2] at hu
        exact hap c d t u hcd ht hu
/-- The code, of the crossings below c. -/
def outR (n : Nat) (S : Nat → Nat) (c : Nat) : List Int := (List.range n).map fun i => if S (2 * i) / 4 < c then (cdD n S (2 * n)).getD i 0 else 0
theorem outR_len (n : Nat) (S : Nat → Nat) (c : Nat) : (outR n S c).length = n := by simp [outR]
theorem outR_zero (n : Nat) (S : Nat → Nat) : outR n S 0 = List.replicate n 0 := by
  refine List.ext_getElem (by simp [outR]) fun i h1 h2 => ?_
  simp [outR]
theorem outR_all {n : Nat} {S : Nat → Nat} (s : Str n S) : outR n S n = cdD n S (2 * n) := by
  have hl : (cdD n S (2 * n)).length = n := by rw [cdD_len]; omega
  refine List.ext_getElem (by rw [outR_len, hl]) fun i h1 h2 => ?_
  rw [outR_len] at h1
  have := s.lt (2 * i) (by omega)
  simp only [outR, List.getElem_map, List.getElem_range]
  rw [if_pos this, List.getD_eq_getElem?_getD, List.getElem?_eq_getElem h2]; rfl
theorem outR_next {n : Nat} {S : Nat → Nat} (s : Str n S) {c e o : Nat} (he : e < 2 * n) (ho : o < 2 * n) (h2 : e % 2 = 0) (h3 : o % 2 = 1) (h4 : S e / 4 = c) (h5 : S o / 4 = c) :
    outR n S (c + 1) = (outR n S c).set (e / 2) (if S o % 2 = 1 then -((o : Int) + 1) else (o : Int) + 1) := by
  have hv : (cdD n S (2 * n)).getD (e / 2) 0 = if S o % 2 = 1 then -((o : Int) + 1) else (o : Int) + 1 := by
    rw [cdD_at (by omega), show 2 * (e / 2) = e by omega, h4, ← h5]
    exact evD_at s h3 (Nat.le_refl _) ho
  refine List.ext_getElem (by rw [List.length_set, outR_len, outR_len]) fun i h6 h7 => ?_
  rw [outR_len] at h6
  rw [List.getElem_set]
  simp only [outR, List.getElem_map, List.getElem_range]
  by_cases hi : e / 2 = i
  · subst hi
    rw [if_pos rfl, show 2 * (e / 2) = e by omega, h4, if_pos (by omega), hv]
  · rw [if_neg hi]
    have hne : S (2 * i) / 4 ≠ c := fun h => by
      have := s.par (2 * i) e (by omega) he (by omega) (by omega)
      omega
    by_cases hlt : S (2 * i) / 4 < c
    · rw [if_pos hlt, if_pos (by omega)]
    · rw [if_neg hlt, if_neg (by omega)]
def I15b (hb : Heap) (f N u : SV) (n : Nat) (S : Nat → Nat) (E : Env) (h : Heap) : Prop := ∃ c : Nat, c ≤ n ∧ Ext hb h ∧ Own hb h u (ints (outR n S c)) ∧
  E = [(3, some (.sc f)), (4, some (.sc N)), (7, some (.sc u)), (8, some (.sc (.int .i64 (c : Nat))))]
def R15b (hb : Heap) (f N u : SV) (n : Nat) (S : Nat → Nat) (ex : Ex) (E : Env) (h : Heap) : Prop := ex = .ex 2 ∧ Ext hb h ∧ Own hb h u (ints (outR n S n)) ∧ ∃ a b c d,
  E = [(3, a), (4, b), (7, some (.sc u)), (8, c), (47, d)]
end Go.Proofs.Ytooafhbjbpaacaa
