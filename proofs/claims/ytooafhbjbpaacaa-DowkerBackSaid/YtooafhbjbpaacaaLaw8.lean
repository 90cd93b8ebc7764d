/- The wakening: it says true. -/
import Derived.Test.YtooafhbjbpaacaaCode
import Derived.Test.YtooafhbjbpaacaaPlain
import Derived.Test.YtooafhbjbpaacaaD9
import Derived.Test.YtooafhbjbpaacaaD6
import Derived.Test.YtooafhbjbpaacaaDP9
import Derived.Test.YtooafhbjbpaacaaD2
import Derived.Test.YtooafhbjbpaacaaDP10
import Derived.Test.YtooafhbjbpaacaaI4
import Derived.Test.YtooafhbjbpaacaaRf
namespace Go.Proofs.Ytooafhbjbpaacaa
open Go.Ab
set_option linter.unusedVariables false
set_option linter.unusedSectionVars false

def isT : Option (AV × Heap) → Bool
  | some (.sc (.bool b), _) => b
  | _ => false

theorem isT_some {o : Option (AV × Heap)} (h : isT o = true) : ∃ h', o = some (.sc (.bool true), h') := by
  unfold isT at h
  split at h
  · subst h; exact ⟨_, rfl⟩
  · simp at h

theorem awake_run : isT (callA FT noHK 1000 10 [] []) = true := by decide +kernel

def HK1 : FuncId → Option Hook := fun f => if f = 10 then some (constHook (.sc (.bool true))) else none

variable [Base]
theorem awake_ok : HkOK Try.prog 10 (constHook (.sc (.bool true))) := by
  obtain ⟨h', hr⟩ := isT_some awake_run
  refine constHook_ok ft_ok (@noHK_ok ⟨0, default⟩ _) (fun β β' c h => ?_) hr
  cases h; exact .bool _

theorem HK1_ok : HKok Try.prog HK1 := fun f g h => by
  unfold HK1 at h
  split at h
  · rename_i hf
    simp only [Option.some.injEq] at h
    subst hf h
    exact awake_ok
  · simp at h

end Go.Proofs.Ytooafhbjbpaacaa


namespace Go.Proofs.Ytooafhbjbpaacaa
open Go.Ab
set_option linter.unusedVariables false
set_option maxRecDepth 20000

theorem awake_call (h : Heap) : ∃ v h', Cal FT HK1 10 [] h v h' ∧ v = .sc (.bool true) ∧ h' = h := ⟨_, _, Cal.hook (g := constHook (.sc (.bool true))) rfl rfl, rfl, rfl⟩

end Go.Proofs.Ytooafhbjbpaacaa



namespace Go.Proofs.Ytooafhbjbpaacaa
open Go.Ab
set_option linter.unusedVariables false
set_option linter.unusedSimpArgs false
set_option maxRecDepth 20000
set_option maxHeartbeats 4000000
attribute [local irreducible] wOps wA wSeq wBlk wRound wRoundI wOpsD wOpsS

theorem awake_call3 (h0 : Heap) : ∃ v h', Cal FT HK1 10 [] h0 v h' ∧ v = .sc (.bool true) ∧ h' = h0 := ⟨_, _, Cal.hook rfl rfl, rfl, rfl⟩
theorem goodT {us : List Int} {h1 : Heap} {v : AV} {h' : Heap} (hu : Good us) (q : BoolIff (Good us) h1 v h') : v = .sc (.bool true) ∧ Ext h1 h' := by
  obtain ⟨e, b, rfl, hq⟩ := q
  rw [hq.2 hu]; exact ⟨rfl, e⟩
end Go.Proofs.Ytooafhbjbpaacaa



namespace Go.Proofs.Ytooafhbjbpaacaa
open Go.Ab
set_option linter.unusedVariables false
set_option linter.unusedSimpArgs false
set_option maxRecDepth 20000
set_option maxHeartbeats 4000000
attribute [local irreducible] wOps wA wSeq wBlk wRound wRoundI wOpsD wOpsS

theorem sgF {vs : List Int} (hg : ¬ Good vs) {h0 : Heap} {v : AV} {h' : Heap} (q : SgR vs h0 v h') : v = .tup [.sc .nilS, .sc (.int .i64 3)] ∧ Ext h0 h' := by
  obtain ⟨e, ⟨x, y⟩ | ⟨x, _⟩ | ⟨x, _⟩ | ⟨x, _⟩⟩ := q
  · exact ⟨y, e⟩
  · exact absurd x hg
  · exact absurd x hg
  · exact absurd x hg
theorem dgF {vs : List Int} (hg : ¬ Good vs) {h0 : Heap} {v : AV} {h' : Heap} (q : DgR vs h0 v h') : v = .tup [.agg [.nilS, .nilS, .int .i64 0], .sc (.int .i64 3)] ∧ Ext h0 h' := by
  obtain ⟨e, ⟨x, y⟩ | ⟨x, _⟩ | ⟨x, _⟩ | ⟨x, _⟩⟩ := q
  · exact ⟨y, e⟩
  · exact absurd x hg
  · exact absurd x hg
  · exact absurd x hg
theorem sgN {vs : List Int} (hg : Good vs) (h14 : vs.length ≤ 14) (hn : ∀ q ∈ cands [] vs.length, ¬ Pd vs q) {h0 : Heap} {v : AV} {h' : Heap} (q : SgR vs h0 v h') : v = .tup [.sc .nilS, .sc (.int .i64 7)] ∧ Ext h0 h' := by
  obtain ⟨e, ⟨x, _⟩ | ⟨_, x, _⟩ | ⟨_, _, _, x⟩ | ⟨_, _, S, L, ⟨A, B, x, y, z⟩, _⟩⟩ := q
  · exact absurd hg x
  · omega
  · exact ⟨x, e⟩
  · exact absurd y (hn L (by rw [x]; simp))
theorem dgN {vs : List Int} (hg : Good vs) (h14 : vs.length ≤ 14) (hn : ∀ q ∈ cands [] vs.length, ¬ Pd vs q) {h0 : Heap} {v : AV} {h' : Heap} (q : DgR vs h0 v h') : v = .tup [.agg [.nilS, .nilS, .int .i64 0], .sc (.int .i64 7)] ∧ Ext h0 h' := by
  obtain ⟨e, ⟨x, _⟩ | ⟨_, x, _⟩ | ⟨_, _, _, x⟩ | ⟨_, _, S, M, L, ⟨A, B, x, y, z⟩, _⟩⟩ := q
  · exact absurd hg x
  · omega
  · exact ⟨x, e⟩
  · exact absurd y (hn L (by rw [x]; simp))
theorem sgY {vs : List Int} (hg : Good vs) (h14 : vs.length ≤ 14) (hn : ¬ ∀ q ∈ cands [] vs.length, ¬ Pd vs q) {h0 : Heap} {v : AV} {h' : Heap} (q : SgR vs h0 v h') :
    ∃ S L, FirstIs (Pd vs) (cands [] vs.length) L ∧ (∃ r, L = 1 :: r) ∧ v = .tup [.sc S, .sc (.int .i64 0)] ∧ IsInts h' S L ∧ Ext h0 h' := by
  obtain ⟨e, ⟨x, _⟩ | ⟨_, x, _⟩ | ⟨_, _, x, _⟩ | ⟨_, _, S, L, x1, x2, x3, x4⟩⟩ := q
  · exact absurd hg x
  · omega
  · exact absurd x hn
  · exact ⟨S, L, x1, x2, x3, x4, e⟩
theorem dgY {vs : List Int} (hg : Good vs) (h14 : vs.length ≤ 14) (hn : ¬ ∀ q ∈ cands [] vs.length, ¬ Pd vs q) {h0 : Heap} {v : AV} {h' : Heap} (q : DgR vs h0 v h') :
    ∃ t m L, FirstIs (Pd vs) (cands [] vs.length) L ∧ (∃ r, L = 1 :: r) ∧ v = .tup [.agg [t, m, .int .i64 0], .sc (.int .i64 0)] ∧ IsInts h' t L ∧ IsInts h' m (mtD vs L) ∧ Ext h0 h' := by
  obtain ⟨e, ⟨x, _⟩ | ⟨_, x, _⟩ | ⟨_, _, x, _⟩ | ⟨_, _, t, m, L, x1, x2, x3, x4, x5⟩⟩ := q
  · exact absurd hg x
  · omega
  · exact absurd x hn
  · exact ⟨t, m, L, x1, x2, x3, x4, x5, e⟩
theorem first_uniq {P : List Int → Prop} {C : List (List Int)} {a b : List Int} (ha : FirstIs P C a) (hb : FirstIs P C b) : a = b := by
  obtain ⟨r, e1⟩ := ha.oks
  obtain ⟨r', e2⟩ := hb.oks
  rw [e1] at e2
  exact (List.cons.inj e2).1
theorem first_ln {P : List Int → Prop} {n : Nat} {L : List Int} (h : FirstIs P (cands [] n) L) : L.length = n := by
  obtain ⟨A, B, x, y, z⟩ := h
  have := (cands_mem (q := L) (p := []) (k := n) (by rw [x]; simp)).1
  simpa using this
theorem al_first {h4 h5 : Heap} {X : SV} {L : List Int} {r : List (List Int)} (al : Al h4 h5 X (L :: r)) : ∃ (n id : Nat) (cap : Option Nat) (t : SV), 1 ≤ n ∧ X = .slc id 0 n cap ∧ lenS false X = some (n : Int) ∧ readN h5 id (0 + (0 : Int).toNat * 1) 1 = some [t] ∧ IsInts h5 t L := by
  obtain ⟨ss, x1, x2, x3⟩ := al
  cases ss with
  | nil => simp at x1
  | cons t ss =>
    obtain ⟨id, cap, hX, hr⟩ := x2.rd (i := 0) (v := t) rfl
    exact ⟨(t :: ss).length, id, cap, t, by simp, hX, Own.len x2, hr, (x3 0 t L rfl rfl).1⟩
theorem mtD_ln (vs q : List Int) : (mtD vs q).length = 4 * vs.length := mtT_len vs.length (inD vs q vs.length) (outD vs q vs.length) (2 * vs.length)
end Go.Proofs.Ytooafhbjbpaacaa



namespace Go.Proofs.Ytooafhbjbpaacaa
open Go.Ab
set_option linter.unusedVariables false
set_option linter.unusedSimpArgs false
set_option maxRecDepth 20000
set_option maxHeartbeats 4000000
attribute [local irreducible] wOps wA wSeq wBlk wRound wRoundI wOpsD wOpsS
variable {HK : FuncId → Option Hook}

section
variable {FT : FuncId → Option AFun} {E : Env} {h : Heap} {K : Env → Heap → Prop} {d : Option Nat} {r : List AOp} {x y : AO} {m n : Int}
theorem k_remc {c : Int} (hx : evS E x = some (.int .i64 m)) (hy : evS E y = some (.int .i64 n)) (hr : 0 ≤ m ∧ 0 < n) (hc : m % n = c) (hw : wOps FT HK r (bindE d (some (.sc (.int .i64 c))) E) h K) : wOps FT HK (⟨d, .bin .rem x y, none⟩ :: r) E h K := by
  subst hc; exact k_rem hx hy hr hw
end
abbrev bools (bs : List Bool) : List SV := bs.map .bool
/-- The partners of the passages, and which pass over. -/
def prD (vs : List Int) : Nat → List Int
  | 0 => List.replicate (2 * vs.length) 0
  | j + 1 => ((prD vs j).set (2 * j) (max (vs.getD j 0) (-(vs.getD j 0)) - 1)).set ((vs.getD j 0).natAbs - 1) (2 * (j : Int))
def flD (vs : List Int) : Nat → List Bool
  | 0 => List.replicate (2 * vs.length) false
  | j + 1 => ((flD vs j).set (2 * j) (decide (0 < vs.getD j 0))).set ((vs.getD j 0).natAbs - 1) (decide (vs.getD j 0 < 0))
theorem prD_len (vs : List Int) : ∀ j, (prD vs j).length = 2 * vs.length
  | 0 => by simp [prD]
  | j + 1 => by rw [prD, List.length_set, List.length_set, prD_len vs j]
theorem flD_len (vs : List Int) : ∀ j, (flD vs j).length = 2 * vs.length
  | 0 => by simp [flD]
  | j + 1 => by rw [flD, List.length_set, List.length_set, flD_len vs j]
variable {vs : List Int}
theorem prD_at (hg : Good vs) : ∀ {j}, j ≤ vs.length → ∀ c, c < j → (prD vs j).getD ((vs.getD c 0).natAbs - 1) 0 = 2 * (c : Int)
  | 0, _, c, h => absurd h (Nat.not_lt_zero _)
  | j + 1, hj, c, h => by
    obtain ⟨a1, a2, a3⟩ := good_v hg (i := j) (by omega)
    obtain ⟨b1, b2, b3⟩ := good_v hg (i := c) (by omega)
    have hl := prD_len vs j
    rw [prD, getD_set2 (by omega) (by omega)]
    by_cases e : c = j
    · subst e; rw [if_pos rfl]
    · rw [if_neg (fun h => e (good_inj hg (by omega) (by omega) (by omega))), if_neg (by omega)]
      exact prD_at hg (by omega) c (by omega)
theorem getD_setb {L : List Bool} {a : Nat} {x : Bool} (ha : a < L.length) (k : Nat) : (L.set a x).getD k false = if k = a then x else L.getD k false := by
  rw [List.getD_eq_getElem?_getD, List.getElem?_set]
  by_cases h : a = k
  · subst h; rw [if_pos rfl, if_pos ha, if_pos rfl]; rfl
  · rw [if_neg h, if_neg (fun e => h e.symm), ← List.getD_eq_getElem?_getD]
theorem flD_at (hg : Good vs) : ∀ {j}, j ≤ vs.length → ∀ c, c < j → (flD vs j).getD (2 * c) false = decide (0 < vs.getD c 0)
  | 0, _, c, h => absurd h (Nat.not_lt_zero _)
  | j + 1, hj, c, h => by
    obtain ⟨a1, a2, a3⟩ := good_v hg (i := j) (by omega)
    have hl := flD_len vs j
    rw [flD, getD_setb (by rw [List.length_set]; omega), getD_setb (by omega), if_neg (by omega)]
    by_cases e : c = j
    · subst e; rw [if_pos rfl]
    · rw [if_neg (by omega)]
      exact flD_at hg (by omega) c (by omega)
/-! ### The first loop -/
def I25a (hb : Heap) (o A F : SV) (vs : List Int) (E : Env) (h : Heap) : Prop := ∃ i : Nat, i ≤ vs.length ∧ Ext hb h ∧ Own hb h A (ints (prD vs i)) ∧ Own hb h F (bools (flD vs i)) ∧
  E = [(0, some (.sc o)), (3, some (.sc (.int .i64 (vs.length : Nat)))), (4, some (.sc A)), (5, some (.sc F)), (6, some (.sc (.int .i64 (i : Nat))))]
def R25a (hb : Heap) (o A F : SV) (vs : List Int) (ex : Ex) (E : Env) (h : Heap) : Prop := ex = .ex 0 ∧ Ext hb h ∧ Own hb h A (ints (prD vs vs.length)) ∧ Own hb h F (bools (flD vs vs.length)) ∧ ∃ a b c,
  E = [(0, a), (3, some (.sc (.int .i64 (vs.length : Nat)))), (4, some (.sc A)), (5, some (.sc F)), (6, b), (23, c)]
/-! ### The second loop -/
theorem sh_pos {n c : Nat} (hc : c < n) : (2 * (c : Int) + 2 * (n : Int) - 1) % (2 * (n : Int)) = ((wS n c : Nat) : Int) - 1 := by
  unfold wS
  by_cases h : c = 0
  · rw [if_pos h, Int.emod_eq_of_lt (by omega) (by omega)]; omega
  · rw [if_neg h, show 2 * (c : Int) + 2 * (n : Int) - 1 = (2 * (c : Int) - 1) + 2 * (n : Int) by omega, Int.add_emod_right, Int.emod_eq_of_lt (by omega) (by omega)]; omega
theorem shL_take {vs : List Int} {i : Nat} (hi : i < vs.length) : (shL vs).take (i + 1) = (shL vs).take i ++ [shV vs i] :=
  take_snoc (by simp [shL, hi])
def I25b (hb : Heap) (A F : SV) (vs : List Int) (E : Env) (h : Heap) : Prop := ∃ (i : Nat) (w : SV), i ≤ vs.length ∧ Ext hb h ∧ Own hb h w (ints ((shL vs).take i)) ∧
  E = [(3, some (.sc (.int .i64 (vs.length : Nat)))), (4, some (.sc A)), (5, some (.sc F)), (9, some (.sc w)), (10, some (.sc (.int .i64 (i : Nat))))]
def R25b (hb : Heap) (A F : SV) (vs : List Int) (ex : Ex) (E : Env) (h : Heap) : Prop := ex = .ex 2 ∧ Ext hb h ∧ ∃ w a b c d e, Own hb h w (ints (shL vs)) ∧
  E = [(3, a), (4, b), (5, c), (9, some (.sc w)), (10, d), (60, e)]
end Go.Proofs.Ytooafhbjbpaacaa


namespace Go.Proofs.Ytooafhbjbpaacaa
open Go.Ab
set_option linter.unusedVariables false
set_option linter.unusedSimpArgs false
set_option maxRecDepth 20000
set_option maxHeartbeats 4000000
attribute [local irreducible] wOps wA wSeq wBlk wRound wRoundI wOpsD wOpsS

theorem mtD_mu {vs xs : List Int} (hs : ∀ i, i < vs.length → Sgn (xs.getD i 0)) {h : Nat} (hh : h < 4 * vs.length) : mateN (mtD vs (negL xs)) (mu h) = mu (mateN (mtD vs xs) h) := by
  have key : (mtD vs (negL xs)).getD (mu h) 0 = muI ((mtD vs xs).getD h 0) := by
    unfold mtD
    rw [inD_mu hs _ (Nat.le_refl _), outD_mu hs _ (Nat.le_refl _)]
    refine mtT_mu (fun k => ?_) (fun k => ?_) _ h hh
    · rcases inD_rng (xs := xs) _ (Nat.le_refl vs.length) k with h | h
      · exact h
      · rw [h]; omega
    · rcases outD_rng (xs := xs) _ (Nat.le_refl vs.length) k with h | h
      · exact h
      · rw [h]; omega
  unfold mateN
  rw [key]
  simp [muI]
theorem oks_mem {P : List Int → Prop} {C : List (List Int)} {q : List Int} : q ∈ oksD P C ↔ q ∈ C ∧ P q := by
  unfold oksD
  simp [List.mem_filter]
theorem two_of {vs L X : List Int} (hg : Good vs) (hF : FirstIs (Pd vs) (cands [] vs.length) L) (h1 : ∃ r, L = 1 :: r) (h2 : (oksD (Pd vs) (cands [] vs.length)).length = 2) (hX : X ∈ cands [] vs.length) (hP : Pd vs X) : X = L ∨ X = negL L := by
  obtain ⟨c1, c2⟩ := hF.mem
  have c3 : negL L ∈ cands [] vs.length := by
    have := cands_neg c1
    simpa [negL] using this
  have c4 : Pd vs (negL L) := mtD_neg hg.1 (cands_iff.1 c1).1 c2
  have hne : L ≠ negL L := by
    obtain ⟨r, rfl⟩ := h1
    simp [negL]
  have m1 := oks_mem.2 ⟨c1, c2⟩
  have m2 := oks_mem.2 ⟨c3, c4⟩
  have m3 := oks_mem.2 ⟨hX, hP⟩
  generalize oksD (Pd vs) (cands [] vs.length) = O at *
  match O, h2 with
  | [a, b], _ =>
    simp only [List.mem_cons, List.not_mem_nil, or_false] at m1 m2 m3
    rcases m1 with rfl | rfl <;> rcases m2 with h | h <;> rcases m3 with rfl | rfl <;> first | exact .inl rfl | exact .inr h.symm | exact absurd h.symm hne | (exact .inr rfl)
/-- The diagram of the shifted code is that of the code, or its reflection. -/
theorem sh_iso {vs L L' : List Int} (hg : Good vs) (hL : L ∈ cands [] vs.length) (hL' : L' ∈ cands [] vs.length) (h : toOld vs L' = L) : Iso vs.length L' L (mtD (shL vs) L') (mtD vs L) (nuS vs) := by
  obtain ⟨l1, s1⟩ := sgn_of hL
  obtain ⟨l2, s2⟩ := sgn_of hL'
  have hx : ∀ i, i < vs.length → L.getD (nuS vs i) 0 = L'.getD i 0 := fun i hi => by
    rw [← h, toOld_at (nuS_at hg hi).1, mu_nuS hg hi]
  exact ⟨fun c hc => (nuS_at hg hc).1, fun h hh => sh_mate hg s1 s2 hx hh, fun c hc => hx c hc⟩
end Go.Proofs.Ytooafhbjbpaacaa


