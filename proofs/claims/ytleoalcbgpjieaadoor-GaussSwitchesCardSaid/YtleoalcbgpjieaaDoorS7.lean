/- The strands hold each outgoing half-edge once. -/
import Derived.Test.YtleoalcbgpjieaaDoorS4
import Derived.Test.YtleoalcbgpjieaaDoorGA
import Derived.Test.YtleoalcbgpjieaaDoorGV
import Derived.Test.YtleoalcbgpjieaaDoorGE
namespace Go.Proofs.YtleoalcbgpjieaaDoor
open Go.Ab
set_option linter.unusedVariables false

theorem Front.lt {xs ms : List Int} {l : Int} (hF : Front xs ms l) : ∀ h, h < ms.length → psi ms h < ms.length := fun h hh => hF.mates.psi_lt hh
/-- Each orbit has a least one. -/
theorem orb_least {n : Nat} {f : Nat → Nat} (hi : Inj n f) (hl : ∀ h, h < n → f h < n) : ∀ h, h < n → ∃ s j, s < n ∧ Least f s ∧ it f j s = h := by
  intro h
  induction h using Nat.strongRecOn with
  | _ h ih =>
    intro hh
    by_cases hx : Least f h
    · exact ⟨h, 0, hh, hx, rfl⟩
    · unfold Least at hx
      simp only [Classical.not_forall, Nat.not_le] at hx
      obtain ⟨i, hi2⟩ := hx
      obtain ⟨s, j, h1, h2, h3⟩ := ih _ hi2 (by omega)
      obtain ⟨k, hk⟩ := orb_symm hi hl hh (rfl : it f i h = it f i h)
      exact ⟨s, k + j, h1, h2, by rw [it_add, h3, hk]⟩
/-- All half-edges of the strands. -/
noncomputable def walkA (xs ms : List Int) : List Nat := (strs xs ms).flatten
theorem walkA_mem {xs ms : List Int} {l : Int} (hF : Front xs ms l) {h : Nat} : h ∈ walkA xs ms ↔ h < ms.length ∧ outB xs h = true := by
  have hi := psi_inj hF.mates hF.inv
  unfold walkA strs
  rw [List.mem_flatten]
  constructor
  · rintro ⟨L, hL, hh⟩
    obtain ⟨s, hs, rfl⟩ := List.mem_map.1 hL
    obtain ⟨h1, h2, h3⟩ := starts_mem.1 hs
    obtain ⟨j, rfl⟩ := (cyc_is hF.mates hF.inv h1).1.mem.1 hh
    exact ⟨hF.mates.pit_lt h1 j, pit_out hF h1 h2 j⟩
  · rintro ⟨hh, ho⟩
    obtain ⟨s, j, h1, h2, h3⟩ := orb_least hi hF.lt h hh
    obtain ⟨k, hk⟩ := orb_symm hi hF.lt h1 h3
    have hso : outB xs s = true := by rw [← hk]; exact pit_out hF hh ho k
    exact ⟨_, List.mem_map.2 ⟨s, starts_mem.2 ⟨h1, hso, h2⟩, rfl⟩, (cyc_is hF.mates hF.inv h1).1.mem.2 ⟨j, h3⟩⟩
theorem cyc_nodup {n : Nat} {f : Nat → Nat} (hi : Inj n f) (hl : ∀ h, h < n → f h < n) {h : Nat} (hh : h < n) {L : List Nat} (hL : Cyc f h L) : L.Nodup := by
  obtain ⟨k, rfl, h2, h3⟩ := hL
  unfold orbN List.Nodup
  rw [List.pairwise_map]
  refine List.Pairwise.imp_of_mem ?_ (List.pairwise_lt_range (n := k + 1))
  intro a b ha hb hab he
  simp only [List.mem_range] at ha hb
  have := it_cancel hi hl hh a (b - a) (by rw [show a + (b - a) = b by omega]; exact he)
  exact h3 (b - a) (by omega) (by omega) this
theorem walkA_nodup {xs ms : List Int} {l : Int} (hF : Front xs ms l) : (walkA xs ms).Nodup := by
  have hi := psi_inj hF.mates hF.inv
  unfold walkA strs List.Nodup
  rw [List.pairwise_flatten]
  constructor
  · intro L hL
    obtain ⟨s, hs, rfl⟩ := List.mem_map.1 hL
    obtain ⟨h1, h2, h3⟩ := starts_mem.1 hs
    exact cyc_nodup hi hF.lt h1 (cyc_is hF.mates hF.inv h1).1
  · rw [List.pairwise_map]
    have hp : (starts xs ms ms.length).Pairwise (· ≠ ·) := by
      unfold starts
      exact List.Pairwise.filter _ (List.Pairwise.imp (fun h => by omega) (List.pairwise_lt_range (n := ms.length)))
    refine List.Pairwise.imp_of_mem ?_ hp
    intro a b ha hb hab x hx y hy he
    subst he
    obtain ⟨a1, a2, a3⟩ := starts_mem.1 ha
    obtain ⟨b1, b2, b3⟩ := starts_mem.1 hb
    obtain ⟨i, hi1⟩ := (cyc_is hF.mates hF.inv a1).1.mem.1 hx
    obtain ⟨j, hj1⟩ := (cyc_is hF.mates hF.inv b1).1.mem.1 hy
    obtain ⟨i', hi2⟩ := orb_symm hi hF.lt a1 hi1
    obtain ⟨j', hj2⟩ := orb_symm hi hF.lt b1 hj1
    have h1 := a3 (j' + i)
    rw [it_add, hi1, hj2] at h1
    have h2 := b3 (i' + j)
    rw [it_add, hj1, hi2] at h2
    omega
/-- As many as outgoing ones. -/
theorem walkA_len {xs ms : List Int} {l : Int} (hF : Front xs ms l) : (walkA xs ms).length = ((List.range ms.length).filter (outB xs)).length := by
  refine List.Perm.length_eq ((List.perm_ext_iff_of_nodup (walkA_nodup hF) ?_).2 fun h => ?_)
  · exact List.Pairwise.filter _ (List.nodup_range)
  · rw [walkA_mem hF, List.mem_filter, List.mem_range]
/-- The outgoing slots of a crossing. -/
theorem out_slot {xs ms : List Int} {l : Int} (hF : Front xs ms l) {h : Nat} (hh : h < ms.length) (ho : outB xs h = true) : h % 4 = 2 ∨ (h % 4 = 1 ∧ xs.getD (h / 4) 0 = 1) ∨ (h % 4 = 3 ∧ xs.getD (h / 4) 0 = -1) := by
  unfold outB at ho
  simp only [Bool.or_eq_true, Bool.and_eq_true, beq_iff_eq] at ho
  omega
/-- The crossing and its parity tell which outgoing half-edge it is. -/
theorem out_same {xs ms : List Int} {l : Int} (hF : Front xs ms l) {g h : Nat} (hg : g < ms.length) (hh : h < ms.length) (og : outB xs g = true) (oh : outB xs h = true) (h4 : g / 4 = h / 4) (h2 : g % 2 = h % 2) : g = h := by
  have h1 := out_slot hF hg og
  have h3 := out_slot hF hh oh
  rw [h4] at h1
  omega
end Go.Proofs.YtleoalcbgpjieaaDoor


namespace Go.Proofs.YtleoalcbgpjieaaDoor
open Go.Ab
set_option linter.unusedVariables false

/-- Whether the slot of a crossing with a sign is outgoing. -/
def outS (x : Int) (s : Nat) : Bool := (s == 1 && x == 1) || s == 2 || (s == 3 && x == -1)
theorem outB_S (xs : List Int) (h : Nat) : outB xs h = outS (xs.getD (h / 4) 0) (h % 4) := rfl

/-- How many of the half-edges below h are outgoing. -/
def cntO (xs : List Int) (h : Nat) : Nat := ((List.range h).filter (outB xs)).length
theorem cntO_succ (xs : List Int) (h : Nat) : cntO xs (h + 1) = cntO xs h + if outB xs h = true then 1 else 0 := by
  unfold cntO
  rw [List.range_succ, List.filter_append, List.length_append]
  by_cases ho : outB xs h = true <;> simp [ho]
theorem outB_at {xs : List Int} {c r : Nat} (hr : r < 4) : outB xs (4 * c + r) = outS (xs.getD c 0) r := by
  rw [outB_S, show (4 * c + r) / 4 = c by omega, show (4 * c + r) % 4 = r by omega]
theorem cntO_four {xs : List Int} (hs : ∀ x ∈ xs, Sgn x) : ∀ c, c ≤ xs.length → cntO xs (4 * c) = 2 * c
  | 0, _ => rfl
  | c + 1, hc => by
    have ih := cntO_four hs c (by omega)
    have hx : xs[c]? = some (xs.getD c 0) := by simp [List.getD, show c < xs.length by omega]
    have hsg := hs _ (List.mem_of_getElem? hx)
    have o0 := outB_at (xs := xs) (c := c) (r := 0) (by omega)
    have o1 := outB_at (xs := xs) (c := c) (r := 1) (by omega)
    have o2 := outB_at (xs := xs) (c := c) (r := 2) (by omega)
    have o3 := outB_at (xs := xs) (c := c) (r := 3) (by omega)
    rw [show 4 * (c + 1) = 4 * c + 0 + 1 + 1 + 1 + 1 by omega, cntO_succ, cntO_succ, cntO_succ, cntO_succ, Nat.add_zero, ih]
    rw [Nat.add_zero] at o0
    rw [o0, show 4 * c + 1 + 1 + 1 = 4 * c + 3 by omega, o3, show 4 * c + 1 + 1 = 4 * c + 2 by omega, o2, o1]
    rcases hsg with h | h <;> rw [h] <;> simp [outS] <;> omega

def visH (h : Nat) : Vis := ((h : Int) / 4, decide (h % 2 = 1))
theorem codeC_flat (Ls : List (List Nat)) : (codeC Ls).flatten = Ls.flatten.map visH := by
  unfold codeC
  rw [List.map_flatten]; rfl
/-- Cycles that hold each outgoing half-edge once. -/
structure Cov (xs ms : List Int) (Ls : List (List Nat)) : Prop where
  cyc : ∀ L ∈ Ls, ∃ s, Cyc (psi ms) s L
  mem : ∀ h, h ∈ Ls.flatten ↔ h < ms.length ∧ outB xs h = true
  nd : Ls.flatten.Nodup
theorem strs_cov {xs ms : List Int} {l : Int} (hF : Front xs ms l) : Cov xs ms (strs xs ms) := ⟨fun L hL => by
  unfold strs at hL
  obtain ⟨s, hs, rfl⟩ := List.mem_map.1 hL
  exact ⟨s, (cyc_is hF.mates hF.inv (starts_mem.1 hs).1).1⟩, fun h => walkA_mem hF, walkA_nodup hF⟩
theorem Cov.len {xs ms : List Int} {l : Int} (hF : Front xs ms l) {Ls : List (List Nat)} (hC : Cov xs ms Ls) : Ls.flatten.length = 2 * xs.length := by
  have h := cntO_four hF.sgn xs.length (Nat.le_refl _)
  unfold cntO at h
  rw [← h, ← hF.four]
  refine List.Perm.length_eq ((List.perm_ext_iff_of_nodup hC.nd ?_).2 fun h => ?_)
  · exact List.Pairwise.filter _ (List.nodup_range)
  · rw [hC.mem, List.mem_filter, List.mem_range]
theorem cov_VG {xs ms : List Int} {l : Int} (hF : Front xs ms l) {Ls : List (List Nat)} (hC : Cov xs ms Ls) : VG ⟨codeC Ls, xs, l⟩ := by
  have h4 := hF.four
  refine ⟨hF.n64, ⟨hF.l0, hF.l64⟩, hF.sgn, fun c hc => ?_, fun v hv => ?_, ?_, ?_⟩
  · obtain ⟨L, hL, rfl⟩ := List.mem_map.1 hc
    obtain ⟨s, hs⟩ := hC.cyc L hL
    have h6 := (hs.mem (g := s)).2 ⟨0, rfl⟩
    intro h0
    unfold visL at h0
    rw [List.map_eq_nil_iff] at h0
    rw [h0] at h6
    cases h6
  · simp only [codeC_flat] at hv
    obtain ⟨h, hh, rfl⟩ := List.mem_map.1 hv
    have := ((hC.mem h).1 hh).1
    simp only [visH]
    omega
  · simp only [codeC_flat]
    unfold List.Nodup
    rw [List.pairwise_map]
    refine List.Pairwise.imp_of_mem ?_ hC.nd
    intro a b ha hb hab he
    obtain ⟨a1, a2⟩ := (hC.mem a).1 ha
    obtain ⟨b1, b2⟩ := (hC.mem b).1 hb
    simp only [visH, Prod.mk.injEq, decide_eq_decide] at he
    exact hab (out_same hF a1 b1 a2 b2 (by omega) (by omega))
  · simp only [codeC_flat]
    rw [List.length_map, hC.len hF]
theorem codeG_VG {xs ms : List Int} {l : Int} (hF : Front xs ms l) : VG (codeG xs ms l) := cov_VG hF (strs_cov hF)
end Go.Proofs.YtleoalcbgpjieaaDoor



namespace Go.Proofs.YtleoalcbgpjieaaDoor
open Go.Ab
set_option linter.unusedVariables false

theorem out_vis {xs ms : List Int} {l : Int} (hF : Front xs ms l) {h : Nat} (hh : h < ms.length) (ho : outB xs h = true) : outG xs (visH h) = h := by
  have e : ((h : Int) / 4).toNat = h / 4 := by omega
  unfold outG visH
  simp only [e, decide_eq_true_eq]
  rcases out_slot hF hh ho with h1 | ⟨h1, h2⟩ | ⟨h1, h2⟩
  · rw [if_neg (by omega)]; omega
  · rw [if_pos (by omega), if_pos h2]; omega
  · rw [if_pos (by omega), if_neg (by rw [h2]; decide)]; omega
theorem in_vis {xs ms : List Int} {l : Int} (hF : Front xs ms l) {h : Nat} (hh : h < ms.length) (ho : outB xs h = true) : inG xs (visH h) = turnN h 2 := by
  have e : ((h : Int) / 4).toNat = h / 4 := by omega
  unfold inG visH turnN
  simp only [e, decide_eq_true_eq]
  rcases out_slot hF hh ho with h1 | ⟨h1, h2⟩ | ⟨h1, h2⟩
  · rw [if_neg (by omega)]; omega
  · rw [if_pos (by omega), if_pos h2]; omega
  · rw [if_pos (by omega), if_neg (by rw [h2]; decide)]; omega
theorem in_psi {xs ms : List Int} {l : Int} (hF : Front xs ms l) {h : Nat} (hh : h < ms.length) (ho : outB xs h = true) : inG xs (visH (psi ms h)) = mateN ms h := by
  rw [in_vis hF (hF.mates.psi_lt hh) (psi_out hF hh ho)]
  unfold psi mateN turnN
  omega

/-- Both ends of the edges of some half-edges are written. -/
def wr1 (ms A : List Int) (h : Nat) : List Int := (A.set h (mateN ms h : Nat)).set (mateN ms h) (h : Nat)
def wrA (ms : List Int) (W : List Nat) (A : List Int) : List Int := W.foldl (wr1 ms) A
theorem wr1_len (ms A : List Int) (h : Nat) : (wr1 ms A h).length = A.length := by simp [wr1]
theorem wrA_len (ms : List Int) : ∀ (W : List Nat) (A : List Int), (wrA ms W A).length = A.length
  | [], A => rfl
  | h :: W, A => by
    show (wrA ms W (wr1 ms A h)).length = _
    rw [wrA_len ms W, wr1_len]
theorem wrA_app (ms : List Int) (V W : List Nat) (A : List Int) : wrA ms (V ++ W) A = wrA ms W (wrA ms V A) := List.foldl_append
theorem mate_get {xs ms : List Int} {l : Int} (hF : Front xs ms l) {h : Nat} (hh : h < ms.length) : ms[h]? = some ((mateN ms h : Nat) : Int) ∧ mateN ms h < ms.length ∧ mateN ms (mateN ms h) = h := by
  obtain ⟨m, h1, h2, h3, h4, h5⟩ := hF.ok h hh
  have e : mateN ms h = m := by unfold mateN; rw [getD_at h1]; simp
  have e2 : mateN ms m = h := by unfold mateN; rw [getD_at h4]; simp
  rw [e, e2]
  exact ⟨h1, h2, rfl⟩
theorem wr1_ok {xs ms : List Int} {l : Int} (hF : Front xs ms l) {A : List Int} (hA : A.length = ms.length) {h j : Nat} (hh : h < ms.length) (hj : j < ms.length) (ho : A.getD j 0 = ms.getD j 0 ∨ j = h ∨ mateN ms j = h) : (wr1 ms A h).getD j 0 = ms.getD j 0 := by
  obtain ⟨h1, h2, h3⟩ := mate_get hF hh
  obtain ⟨g1, g2, g3⟩ := mate_get hF hj
  have em : ms.getD j 0 = (mateN ms j : Nat) := by simp [List.getD, g1]
  unfold wr1
  rw [getD_set (by rw [List.length_set, hA]; exact h2), getD_set (by rw [hA]; exact hh), em]
  by_cases c1 : j = mateN ms h
  · rw [if_pos c1, c1, h3]
  · rw [if_neg c1]
    by_cases c2 : j = h
    · rw [if_pos c2, c2]
    · rw [if_neg c2]
      rcases ho with ho | ho | ho
      · rw [ho, em]
      · exact absurd ho c2
      · exact absurd (by rw [← ho, g3]) c1
theorem wrA_ok {xs ms : List Int} {l : Int} (hF : Front xs ms l) {j : Nat} (hj : j < ms.length) : ∀ {W : List Nat} {A : List Int}, A.length = ms.length → (∀ h ∈ W, h < ms.length) → (A.getD j 0 = ms.getD j 0 ∨ j ∈ W ∨ mateN ms j ∈ W) → (wrA ms W A).getD j 0 = ms.getD j 0
  | [], A, hA, hW, ho => by
    rcases ho with ho | ho | ho
    · exact ho
    · cases ho
    · cases ho
  | h :: W, A, hA, hW, ho => by
    show (wrA ms W (wr1 ms A h)).getD j 0 = _
    have hh := hW h (by simp)
    refine wrA_ok hF hj (by rw [wr1_len, hA]) (fun g hg => hW g (by simp [hg])) ?_
    have key := fun ho => wr1_ok hF hA hh hj ho
    rcases ho with ho | ho | ho
    · exact .inl (key (.inl ho))
    · rcases List.mem_cons.1 ho with e | e
      · exact .inl (key (.inr (.inl e)))
      · exact .inr (.inl e)
    · rcases List.mem_cons.1 ho with e | e
      · exact .inl (key (.inr (.inr e)))
      · exact .inr (.inr e)
/-- The next one of a cycle. -/
theorem cyc_next {f : Nat → Nat} {s : Nat} {L : List Nat} (hL : Cyc f s L) {k x : Nat} (hk : L[k]? = some x) : L[(k + 1) % L.length]? = some (f x) := by
  obtain ⟨m, rfl, h2, h3⟩ := hL
  have hl := (List.getElem?_eq_some_iff.1 hk).1
  rw [orbN_len] at hl ⊢
  unfold orbN at hk ⊢
  rw [List.getElem?_map, List.getElem?_range (by omega)] at hk
  have hx : it f k s = x := by simpa using hk
  rw [List.getElem?_map, List.getElem?_range (Nat.mod_lt _ (by omega)), Option.map_some]
  by_cases e : k = m
  · subst e
    rw [Nat.mod_self, ← hx]
    show some s = some (it f (k + 1) s)
    rw [h2]
  · rw [Nat.mod_eq_of_lt (by omega), ← hx]; rfl
theorem mtC_wr {xs ms : List Int} {l : Int} (hF : Front xs ms l) {s : Nat} {L : List Nat} (hL : Cyc (psi ms) s L) (ho : ∀ h ∈ L, h < ms.length ∧ outB xs h = true) (A : List Int) : ∀ k, k ≤ L.length → mtC xs (visL L) k A = wrA ms (L.take k) A
  | 0, _ => by simp [mtC, wrA]
  | k + 1, hk => by
    obtain ⟨x, hx⟩ : ∃ x, L[k]? = some x := ⟨_, List.getElem?_eq_getElem (by omega)⟩
    have hn := cyc_next hL hx
    obtain ⟨x1, x2⟩ := ho x (List.mem_of_getElem? hx)
    have g1 : (visL L).getD k (0, false) = visH x := by rw [List.getD_eq_getElem?_getD, visL_at hx]; rfl
    have g2 : (visL L).getD ((k + 1) % (visL L).length) (0, false) = visH (psi ms x) := by rw [visL_len, List.getD_eq_getElem?_getD, visL_at hn]; rfl
    rw [mtC, g1, g2, mtC_wr hF hL ho A k (by omega), take_snoc hx, wrA_app, out_vis hF x1 x2, in_psi hF x1 x2]
    rfl
theorem mtG_wr {xs ms : List Int} {l : Int} (hF : Front xs ms l) {Ls : List (List Nat)} (hC : Cov xs ms Ls) : ∀ i, i ≤ Ls.length → mtG xs (codeC Ls) i = wrA ms (Ls.take i).flatten (List.replicate (4 * xs.length) 0)
  | 0, _ => by simp [mtG, wrA]
  | i + 1, hi => by
    obtain ⟨L, hL⟩ : ∃ L, Ls[i]? = some L := ⟨_, List.getElem?_eq_getElem (by omega)⟩
    have hmem := List.mem_of_getElem? hL
    have hg : (codeC Ls).getD i [] = visL L := by rw [List.getD_eq_getElem?_getD, codeC, List.getElem?_map, hL]; rfl
    obtain ⟨s, hs⟩ := hC.cyc L hmem
    have ho : ∀ h ∈ L, h < ms.length ∧ outB xs h = true := fun h hh => (hC.mem h).1 (List.mem_flatten.2 ⟨L, hmem, hh⟩)
    rw [mtG, hg, visL_len, mtG_wr hF hC i (by omega), mtC_wr hF hs ho _ _ (Nat.le_refl _), List.take_length, ← wrA_app, take_snoc hL, List.flatten_append]
    simp
/-- The mates of the code are the diagram's. -/
theorem mtG_cov {xs ms : List Int} {l : Int} (hF : Front xs ms l) {Ls : List (List Nat)} (hC : Cov xs ms Ls) : mtG xs (codeC Ls) (codeC Ls).length = ms := by
  have hl : (codeC Ls).length = Ls.length := by simp [codeC]
  have h4 := hF.four
  rw [hl, mtG_wr hF hC _ (Nat.le_refl _), List.take_length]
  have hW : ∀ h ∈ Ls.flatten, h < ms.length := fun h hh => ((hC.mem h).1 hh).1
  have hlen : (wrA ms Ls.flatten (List.replicate (4 * xs.length) 0)).length = ms.length := by rw [wrA_len]; simp [h4]
  refine List.ext_getElem? fun j => ?_
  by_cases hj : j < ms.length
  · have hin : j ∈ Ls.flatten ∨ mateN ms j ∈ Ls.flatten := by
      obtain ⟨m, h1, h2, h3, h4, h5⟩ := hF.ok j hj
      have e : mateN ms j = m := by unfold mateN; rw [getD_at h1]; simp
      cases ho : outB xs j with
      | true => exact .inl ((hC.mem j).2 ⟨hj, ho⟩)
      | false =>
        rw [e]
        refine .inr ((hC.mem m).2 ⟨h2, ?_⟩)
        cases hm : outB xs m with
        | true => rfl
        | false => rw [ho, hm] at h5; exact absurd rfl h5
    have := wrA_ok hF hj (A := List.replicate (4 * xs.length) 0) (by simp [h4]) hW (.inr hin)
    rw [List.getElem?_eq_getElem (by omega), List.getElem?_eq_getElem hj]
    simp only [List.getD_eq_getElem?_getD, List.getElem?_eq_getElem hj, Option.getD_some] at this
    rw [List.getElem?_eq_getElem (by omega)] at this
    simpa using this
  · rw [List.getElem?_eq_none (by omega), List.getElem?_eq_none (by omega)]
theorem mtG_ms {xs ms : List Int} {l : Int} (hF : Front xs ms l) : mtG xs (codeC (strs xs ms)) (codeC (strs xs ms)).length = ms := mtG_cov hF (strs_cov hF)
end Go.Proofs.YtleoalcbgpjieaaDoor

