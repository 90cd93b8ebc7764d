/- The diagram of the code of a diagram: plain. -/
import Derived.Test.YtooafhbjbpaacaaPT8
import Derived.Test.YtooafhbjbpaacaaDP10
namespace Go.Proofs.Ytooafhbjbpaacaa
open Go.Ab
set_option linter.unusedVariables false
variable {xs ms : List Int} {l : Int}

theorem cdD_at {n : Nat} {S : Nat → Nat} : ∀ {j i : Nat}, 2 * i < j → (cdD n S j).getD i 0 = (evD n S (2 * n)).getD (S (2 * i) / 4) 0
  | 0, i, h => absurd h (Nat.not_lt_zero _)
  | j + 1, i, h => by
    have hl := cdD_len n S j
    unfold cdD
    by_cases hp : j % 2 = 0
    · rw [if_pos hp, List.getD_eq_getElem?_getD, List.getElem?_append]
      by_cases hi : 2 * i < j
      · rw [if_pos (by omega), ← List.getD_eq_getElem?_getD]
        exact cdD_at hi
      · have : j = 2 * i := by omega
        subst this
        rw [if_neg (by omega), show i - (cdD n S (2 * i)).length = 0 by omega]
        rfl
    · rw [if_neg hp]
      exact cdD_at (by omega)
/-- What the code says of crossing i: its other passage is k, over if S k lies in an odd slot. -/
theorem cdD_v {n : Nat} {S : Nat → Nat} (s : Str n S) {i : Nat} (hi : i < n) : ∃ k, k < 2 * n ∧ k % 2 = 1 ∧ S k / 4 = S (2 * i) / 4 ∧ (cdD n S (2 * n)).getD i 0 = if S k % 2 = 1 then -((k : Int) + 1) else (k : Int) + 1 := by
  obtain ⟨k, hk, e, hq⟩ := s.part (2 * i) (by omega)
  refine ⟨k, hk, by omega, e, ?_⟩
  rw [cdD_at (by omega), ← e]
  exact evD_at s (by omega) (Nat.le_refl _) hk
/-- The slot of an outgoing half. -/
theorem out_slotT (hF : Front xs ms l) {h : Nat} (hh : h < ms.length) (ho : outB xs h = true) : (h % 2 = 0 → h = 4 * (h / 4) + 2) ∧ (h % 2 = 1 → h = ovH (xs.getD (h / 4) 0) (h / 4)) := by
  have h4 := hF.four
  have hx : xs[h / 4]? = some (xs.getD (h / 4) 0) := by simp [List.getD, show h / 4 < xs.length by omega]
  have hs := hF.sgn _ (List.mem_of_getElem? hx)
  unfold outB at ho
  unfold ovH
  have a : h % 4 = 0 ∨ h % 4 = 1 ∨ h % 4 = 2 ∨ h % 4 = 3 := by omega
  rcases hs with hs | hs <;> rw [hs] at ho ⊢ <;> rcases a with a | a | a | a <;> rw [a] at ho <;> first | (exact absurd ho (by decide)) | (constructor <;> intro _ <;> first | omega | (rw [if_pos rfl]; omega) | (rw [if_neg (by decide)]; omega))
/-- The strand's signs: of the crossings in the order of their passages of one parity. -/
def sgS (xs : List Int) (S : Nat → Nat) : List Int := (List.range xs.length).map fun i => xs.getD (S (2 * i) / 4) 0
theorem sgS_at {S : Nat → Nat} {i : Nat} (hi : i < xs.length) : (sgS xs S).getD i 0 = xs.getD (S (2 * i) / 4) 0 := by simp [sgS, List.getD, hi]
section
variable {S : Nat → Nat}
structure Tour (xs ms : List Int) (S : Nat → Nat) : Prop where
  st : Str xs.length S
  lt : ∀ j, j < 2 * xs.length → S j < ms.length
  ou : ∀ j, j < 2 * xs.length → outB xs (S j) = true
  nx : ∀ j, j < 2 * xs.length → psi ms (S j) = S ((j + 1) % (2 * xs.length))
  al : ∀ h, h < ms.length → outB xs h = true → ∃ j, j < 2 * xs.length ∧ S j = h
theorem sgS_sgn (hF : Front xs ms l) (T : Tour xs ms S) : ∀ i, i < xs.length → Sgn ((sgS xs S).getD i 0) := fun i hi => by
  rw [sgS_at hi]
  have h1 := T.st.lt (2 * i) (by omega)
  have hx : xs[S (2 * i) / 4]? = some (xs.getD (S (2 * i) / 4) 0) := by simp [List.getD, h1]
  exact hF.sgn _ (List.mem_of_getElem? hx)
theorem sgS_c (hF : Front xs ms l) (T : Tour xs ms S) : sgS xs S ∈ cands [] xs.length := by
  rw [cands_iff]
  refine ⟨by simp [sgS], fun x hx => ?_⟩
  obtain ⟨i, hi, rfl⟩ := List.mem_map.1 hx
  have hi2 := List.mem_range.1 hi
  have := sgS_sgn hF T i hi2
  rw [sgS_at hi2] at this
  exact this
/-- The passages of the diagram that is drawn are those of the strand. -/
theorem tour_o (hF : Front xs ms l) (h1n : 1 ≤ xs.length) (T : Tour xs ms S) {k : Nat} (hk : k < 2 * xs.length) :
    rnum (fun i => S (2 * i) / 4) (oN (cdD xs.length S (2 * xs.length)) (sgS xs S) k) = S k ∧ rnum (fun i => S (2 * i) / 4) (iN (cdD xs.length S (2 * xs.length)) (sgS xs S) k) = turnN (S k) 2 := by
  have hg := cdD_good h1n hF.n64 T.st
  have hl : (cdD xs.length S (2 * xs.length)).length = xs.length := by rw [cdD_len]; omega
  have h1 : rnum (fun i => S (2 * i) / 4) (oN (cdD xs.length S (2 * xs.length)) (sgS xs S) k) = S k := by
    obtain ⟨i, hi, h⟩ := pass_at (xs := sgS xs S) hg (k := k) (by rw [hl]; exact hk)
    rw [hl] at hi
    obtain ⟨k', a1, a2, a3, a4⟩ := cdD_v T.st hi
    rw [a4, sgS_at hi] at h
    have o1 := out_slotT hF (T.lt k' a1) (T.ou k' a1)
    have o2 := out_slotT hF (T.lt (2 * i) (by omega)) (T.ou (2 * i) (by omega))
    have hne : S (2 * i) % 2 ≠ S k' % 2 := fun hp => by
      have := out_same4 hF (T.lt k' a1) (T.lt (2 * i) (by omega)) a3 (T.ou k' a1) (T.ou (2 * i) (by omega)) (by omega)
      have hp : S k' / 4 = S (2 * i) / 4 := a3
      -- the same half would be the same passage
      have z : psi ms (S k') = psi ms (S (2 * i)) := by rw [this]
      obtain ⟨g, g1, g2, g3, g4⟩ := out_other hF (T.lt (2 * i) (by omega)) (T.ou (2 * i) (by omega))
      obtain ⟨j, j1, j2⟩ := T.al g g1 g3
      have e1 : j % 2 = k' % 2 ∨ j % 2 = (2 * i) % 2 := by omega
      rcases e1 with e1 | e1
      · have := T.st.par j k' j1 a1 (by rw [j2]; omega) e1
        subst this; omega
      · have := T.st.par j (2 * i) j1 (by omega) (by rw [j2]; omega) e1
        subst this; omega
    have hov : ∀ x c, rnum (fun i => S (2 * i) / 4) (ovH x c) = ovH x (S (2 * c) / 4) := fun x c => by
      unfold rnum ovH
      split
      · rw [show (4 * c + 3) / 4 = c by omega, show (4 * c + 3) % 4 = 3 by omega]
      · rw [show (4 * c + 1) / 4 = c by omega, show (4 * c + 1) % 4 = 1 by omega]
    have hun : rnum (fun i => S (2 * i) / 4) (4 * i + 2) = 4 * (S (2 * i) / 4) + 2 := by
      unfold rnum
      rw [show (4 * i + 2) / 4 = i by omega, show (4 * i + 2) % 4 = 2 by omega]
    by_cases hq : S k' % 2 = 1
    · rw [if_pos hq] at h
      rcases h with ⟨b1, b2, _⟩ | ⟨b1, b2, _⟩
      · rw [b2, hun]
        unfold unD at b1
        rw [if_pos (by omega)] at b1
        subst b1
        exact (o2.1 (by omega)).symm
      · rw [b2, hov]
        unfold ovD at b1
        rw [if_pos (by omega)] at b1
        have : k = k' := by omega
        subst this
        rw [← a3]
        exact (o1.2 hq).symm
    · rw [if_neg hq] at h
      rcases h with ⟨b1, b2, _⟩ | ⟨b1, b2, _⟩
      · rw [b2, hun]
        unfold unD at b1
        rw [if_neg (by omega)] at b1
        have : k = k' := by omega
        subst this
        rw [← a3]
        exact (o1.1 (by omega)).symm
      · rw [b2, hov]
        unfold ovD at b1
        rw [if_neg (by omega)] at b1
        subst b1
        exact (o2.2 (by omega)).symm
  refine ⟨h1, ?_⟩
  rw [← (oN_iN hg (xs := sgS xs S) (k := k) (by rw [hl]; exact hk)).1, ← turn_rnum, h1]
theorem tour_mate (hF : Front xs ms l) (h1n : 1 ≤ xs.length) (T : Tour xs ms S) {h : Nat} (hh : h < 4 * xs.length) :
    mateN ms (rnum (fun i => S (2 * i) / 4) h) = rnum (fun i => S (2 * i) / 4) (mateN (mtD (cdD xs.length S (2 * xs.length)) (sgS xs S)) h) := by
  have hg := cdD_good h1n hF.n64 T.st
  have hl : (cdD xs.length S (2 * xs.length)).length = xs.length := by rw [cdD_len]; omega
  have hs : ∀ i, i < (cdD xs.length S (2 * xs.length)).length → Sgn ((sgS xs S).getD i 0) := by rw [hl]; exact sgS_sgn hF T
  have hto := fun k hk => tour_o hF h1n T (k := k) hk
  have key : ∀ k, k < 2 * xs.length → mateN ms (S k) = turnN (S ((k + 1) % (2 * xs.length))) 2 := fun k hk => by
    have e := T.nx k hk
    show mateN ms (S k) = _
    rw [← e]
    show _ = turnN (turnN (mateN ms (S k)) 2) 2
    rw [turn_turn rfl]
  obtain ⟨k, hk, e⟩ := half_of (xs := sgS xs S) hg hs (h := h) (by rw [hl]; exact hh)
  rw [hl] at hk
  rcases e with rfl | rfl
  · have m := (mate_o (xs := sgS xs S) hg hs (k := k) (by rw [hl]; exact hk)).1
    rw [hl] at m
    rw [m, (hto k hk).1, (hto _ (Nat.mod_lt _ (by omega))).2, key k hk]
  · -- the passage before
    have hj : (k + (2 * xs.length - 1)) % (2 * xs.length) < 2 * xs.length := Nat.mod_lt _ (by omega)
    have e : ((k + (2 * xs.length - 1)) % (2 * xs.length) + 1) % (2 * xs.length) = k := by
      rw [Nat.mod_add_mod, show k + (2 * xs.length - 1) + 1 = k + 2 * xs.length by omega, Nat.add_mod_right, Nat.mod_eq_of_lt hk]
    generalize (k + (2 * xs.length - 1)) % (2 * xs.length) = j at *
    have m := (mate_o (xs := sgS xs S) hg hs (k := j) (by rw [hl]; exact hj)).2
    rw [hl, e] at m
    rw [m, (hto k hk).2, (hto j hj).1]
    have h2 := key j hj
    rw [e] at h2
    rw [← h2]
    exact (hF.mateg (T.lt j hj)).2.2.1
/-- The correspondence. -/
theorem tour_iso (hF : Front xs ms l) (h1n : 1 ≤ xs.length) (T : Tour xs ms S) : Iso xs.length (sgS xs S) xs (mtD (cdD xs.length S (2 * xs.length)) (sgS xs S)) ms (fun i => S (2 * i) / 4) :=
  ⟨fun c hc => T.st.lt _ (by omega), fun h hh => tour_mate hF h1n T hh, fun c hc => (sgS_at hc).symm⟩
/-- The crossing's number in the code. -/
noncomputable def muT (n : Nat) (S : Nat → Nat) (c : Nat) : Nat := open Classical in if h : ∃ i, i < n ∧ S (2 * i) / 4 = c then h.choose else 0
theorem muT_at (hF : Front xs ms l) (T : Tour xs ms S) {c : Nat} (hc : c < xs.length) : muT xs.length S c < xs.length ∧ S (2 * muT xs.length S c) / 4 = c := by
  have h4 := hF.four
  have hx : ∃ i, i < xs.length ∧ S (2 * i) / 4 = c := by
    have o : outB xs (4 * c + 2) = true := by
      have hx : xs[c]? = some (xs.getD c 0) := by simp [List.getD, hc]
      have hs := hF.sgn _ (List.mem_of_getElem? hx)
      unfold outB
      rw [show (4 * c + 2) / 4 = c by omega, show (4 * c + 2) % 4 = 2 by omega]
      rcases hs with e | e <;> rw [e] <;> rfl
    obtain ⟨j, j1, j2⟩ := T.al _ (by omega) o
    by_cases hp : j % 2 = 0
    · exact ⟨j / 2, by omega, by rw [show 2 * (j / 2) = j by omega, j2]; omega⟩
    · obtain ⟨k, k1, k2, k3⟩ := T.st.part j j1
      exact ⟨k / 2, by omega, by rw [show 2 * (k / 2) = k by omega, k2, j2]; omega⟩
  unfold muT
  rw [dif_pos hx]
  exact hx.choose_spec
theorem tour_ren (hF : Front xs ms l) (h1n : 1 ≤ xs.length) (T : Tour xs ms S) : Ren (muT xs.length S) (fun i => S (2 * i) / 4) xs ms (sgS xs S) (mtD (cdD xs.length S (2 * xs.length)) (sgS xs S)) := by
  have hg := cdD_good h1n hF.n64 T.st
  have hl : (cdD xs.length S (2 * xs.length)).length = xs.length := by rw [cdD_len]; omega
  have hs : ∀ i, i < (cdD xs.length S (2 * xs.length)).length → Sgn ((sgS xs S).getD i 0) := by rw [hl]; exact sgS_sgn hF T
  have h4 := hF.four
  have hm := mtD_len (cdD xs.length S (2 * xs.length)) (sgS xs S)
  rw [hl] at hm
  have hnm : ∀ c, c < xs.length → muT xs.length S (S (2 * c) / 4) = c := fun c hc => by
    obtain ⟨a, b⟩ := muT_at hF T (T.st.lt (2 * c) (by omega))
    have := T.st.par _ _ (by omega) (by omega) b (by omega)
    omega
  refine ⟨by simp [sgS], by omega, fun c hc => (muT_at hF T hc).1, fun c hc => T.st.lt _ (by omega), fun c hc => (muT_at hF T hc).2, hnm, fun c hc => ?_, fun h hh => ?_⟩
  · rw [sgS_at (muT_at hF T hc).1, (muT_at hF T hc).2]
  · obtain ⟨a, b⟩ := muT_at hF T (c := h / 4) (by omega)
    have hlt : rnum (muT xs.length S) h < 4 * xs.length := by unfold rnum; omega
    have hb : rnum (fun i => S (2 * i) / 4) (rnum (muT xs.length S) h) = h := by
      have e1 : rnum (muT xs.length S) h / 4 = muT xs.length S (h / 4) := rnum_div _ _
      have e2 : rnum (muT xs.length S) h % 4 = h % 4 := rnum_mod _ _
      show 4 * (S (2 * (rnum (muT xs.length S) h / 4)) / 4) + rnum (muT xs.length S) h % 4 = h
      rw [e1, e2, b]; omega
    have hmt := tour_mate hF h1n T hlt
    rw [hb] at hmt
    obtain ⟨g1, g2⟩ := mtD_get (vs := cdD xs.length S (2 * xs.length)) (xs := sgS xs S) hg hs (h := rnum (muT xs.length S) h) (by rw [hl]; exact hlt)
    rw [hl] at g2
    rw [g1, hmt]
    generalize mateN (mtD (cdD xs.length S (2 * xs.length)) (sgS xs S)) (rnum (muT xs.length S) h) = g at *
    have e1 : rnum (fun i => S (2 * i) / 4) g / 4 = S (2 * (g / 4)) / 4 := rnum_div _ _
    have e2 : rnum (fun i => S (2 * i) / 4) g % 4 = g % 4 := rnum_mod _ _
    have : rnum (muT xs.length S) (rnum (fun i => S (2 * i) / 4) g) = g := by
      show 4 * muT xs.length S (rnum (fun i => S (2 * i) / 4) g / 4) + rnum (fun i => S (2 * i) / 4) g % 4 = g
      rw [e1, e2, hnm _ (by omega)]; omega
    rw [this]
theorem tour_of (hV : PV xs ms l) (h1n : 1 ≤ xs.length) {t : Nat} (hst : starts xs ms ms.length = [t]) : Tour xs ms (fun j => it (psi ms) j t) ∧ strs xs ms = [(List.range (2 * xs.length)).map fun j => it (psi ms) j t] ∧ Conn xs.length ms := by
  obtain ⟨ht, ho, s, h1, h2, h3, h4⟩ := one_str_of hV h1n hst
  have hF := hV.1
  have hl : ∀ h, h < ms.length → psi ms h < ms.length := fun h hh => hF.mates.psi_lt hh
  refine ⟨⟨s, fun j _ => it_lt hl ht j, fun j _ => pit_out hF ht ho j, fun j hj => ?_, h4⟩, h1, one_conn hF ht hst⟩
  show it (psi ms) (j + 1) t = _
  by_cases e : j + 1 = 2 * xs.length
  · rw [e, Nat.mod_self, h2]; rfl
  · rw [Nat.mod_eq_of_lt (by omega)]
/-- The diagram is one of its code's. -/
theorem tour_pd (hV : PV xs ms 0) (h1n : 1 ≤ xs.length) (T : Tour xs ms S) (hC : Conn xs.length ms) : Pd (cdD xs.length S (2 * xs.length)) (sgS xs S) := by
  have hF := hV.1
  have hg := cdD_good h1n hF.n64 T.st
  have hl : (cdD xs.length S (2 * xs.length)).length = xs.length := by rw [cdD_len]; omega
  have hs : ∀ i, i < (cdD xs.length S (2 * xs.length)).length → Sgn ((sgS xs S).getD i 0) := by rw [hl]; exact sgS_sgn hF T
  have c2 := conn_o hg hs
  rw [hl] at c2
  exact (tour_ren hF h1n T).pv h1n hC c2 hV
end
end Go.Proofs.Ytooafhbjbpaacaa
