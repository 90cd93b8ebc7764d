/- PlanarStrands: the text of a diagram, split as the library does. -/
import Derived.Test.YtehnalbdfnmphaaDoorRP1
import Derived.Test.YtehnalbdfnmphaaDoorT1
import Derived.Lib.ItoaNum
import Derived.Lib.Split
import Derived.Lib.SplitLaws
namespace Go.Proofs.YtehnalbdfnmphaaDoor
open Go.Ab
set_option linter.unusedVariables false
set_option linter.unusedSectionVars false
set_option linter.unusedSimpArgs false

theorem rdN_app : ∀ (a b : List UInt8) (v : Int), rdN (a ++ b) v = (rdN a v).bind (rdN b)
  | [], b, v => rfl
  | c :: a, b, v => by
    simp only [List.cons_append, rdN]
    split
    · rfl
    · exact rdN_app a b _
theorem rdN_dig : ∀ {s : List UInt8} {v x : Int}, rdN s v = some x → ∀ c ∈ s, 48 ≤ c.toNat ∧ c.toNat ≤ 57
  | [], v, x, h, c, hc => by simp at hc
  | d :: s, v, x, h, c, hc => by
    simp only [rdN] at h
    split at h
    · cases h
    · rcases List.mem_cons.1 hc with rfl | hc
      · omega
      · exact rdN_dig h c hc
theorem dig_nat {r : Nat} (h : r < 10) : (UInt8.ofNat (48 + r)).toNat = 48 + r := by rw [UInt8.toNat_ofNat']; omega
theorem rdN_dec : ∀ n : Nat, rdN (Lib.decDigits n) 0 = some (n : Int) := by
  intro n
  induction n using Nat.strongRecOn with
  | _ n ih =>
    rw [Lib.decDigits]
    split
    · rename_i h
      simp only [rdN, dig_nat h]
      rw [if_neg (by omega)]
      congr 1; omega
    · rename_i h
      rw [rdN_app, ih (n / 10) (by omega)]
      have hr : n % 10 < 10 := by omega
      simp only [Option.bind_some, rdN, dig_nat hr]
      rw [if_neg (by omega)]
      congr 1; omega
theorem itoa_dig {x : Int} (h0 : 0 ≤ x) : ∀ c ∈ Lib.itoa x, 48 ≤ c.toNat ∧ c.toNat ≤ 57 := by
  have e : Lib.itoa x = Lib.decDigits x.toNat := by
    have := Lib.itoa_nonneg x.toNat
    rwa [Int.toNat_of_nonneg h0] at this
  rw [e]
  exact rdN_dig (rdN_dec _)
theorem itoa_no {x : Int} (h0 : 0 ≤ x) {c : UInt8} (hc : c.toNat < 48) : c ∉ Lib.itoa x := fun hm => by
  have := itoa_dig h0 c hm
  omega

/-! ### Lines -/
def LabR (lb : List Int) (N : Nat) : Prop := ∀ g, g < N → 1 ≤ lb.getD g 0 ∧ lb.getD g 0 ≤ 9999
theorem rowK_form (xs lb : List Int) (c : Nat) : rowK xs lb c 4 = sgT (xs.getD c 0) ++ 32 :: (Lib.itoa (lb.getD (4 * c + 0) 0) ++ 32 :: (Lib.itoa (lb.getD (4 * c + 1) 0) ++ 32 :: (Lib.itoa (lb.getD (4 * c + 2) 0) ++ 32 :: Lib.itoa (lb.getD (4 * c + 3) 0)))) := by
  simp only [rowK, List.append_assoc, List.cons_append, List.nil_append]
theorem idx_spl (c : UInt8) (s : List UInt8) : (c ∉ s ∧ Lib.index s [c] = -1) ∨ ∃ w r, s = w ++ c :: r ∧ c ∉ w ∧ Lib.index s [c] = (w.length : Nat) := by
  rcases Lib.index_spec s [c] with ⟨h1, h2⟩ | ⟨i, h1, h2, h3, h4⟩
  · refine .inl ⟨fun hm => ?_, h1⟩
    obtain ⟨j, hj⟩ := List.mem_iff_getElem?.1 hm
    have := (List.getElem?_eq_some_iff.1 hj).1
    have h3 := h2 j (by omega)
    rw [(occ_one s c j).2 hj] at h3
    cases h3
  · have hi := (occ_one s c i).1 h3
    have hl := (List.getElem?_eq_some_iff.1 hi).1
    have hc : c ∉ s.take i := fun hm => by
      obtain ⟨j, hj⟩ := List.mem_iff_getElem?.1 hm
      rw [List.getElem?_take] at hj
      split at hj
      · rename_i hji
        have h5 := h4 j hji
        rw [(occ_one s c j).2 hj] at h5
        cases h5
      · cases hj
    have hs : s = s.take i ++ c :: s.drop (i + 1) := by
      have h6 := List.take_append_drop i s
      rw [List.drop_eq_getElem_cons hl, (List.getElem?_eq_some_iff.1 hi).2] at h6
      exact h6.symm
    exact .inr ⟨s.take i, s.drop (i + 1), hs, hc, by rw [h1, List.length_take, Nat.min_eq_left h2]⟩
theorem lib_spl (c : UInt8) : ∀ (n : Nat) (s : List UInt8), s.length ≤ n → Lib.split s [c] = spl c s := by
  intro n
  induction n with
  | zero =>
    intro s hs
    have : s = [] := List.eq_nil_of_length_eq_zero (by omega)
    subst this
    unfold Lib.split
    rw [Lib.count_one]
    rfl
  | succ n ih =>
    intro s hs
    rcases idx_spl c s with ⟨h1, h2⟩ | ⟨w, r, rfl, h1, h2⟩
    · unfold Lib.split
      rw [Lib.count_one, List.count_eq_zero.2 h1, spl_no h1]
      rfl
    · have hr := ih r (by simp at hs; omega)
      unfold Lib.split at hr ⊢
      rw [Lib.count_one] at hr ⊢
      have hcn : (w ++ c :: r).count c = r.count c + 1 := by
        rw [List.count_append, List.count_eq_zero.2 h1, List.count_cons_self]; omega
      rw [hcn, spl_app h1]
      unfold Lib.splitK
      rw [if_neg (by rw [h2]; simp), h2, Int.toNat_natCast, Nat.add_zero, List.take_left]
      have hd : (w ++ c :: r).drop (w.length + ([c] : List UInt8).length) = r := by
        rw [← List.drop_drop, List.drop_left]; rfl
      rw [hd, hr]

/-! ### Other labels -/
abbrev SB (ws : List (List UInt8)) : Blk := .cells (ws.map tb) true 1
theorem split_call (h : Heap) (s : List UInt8) (c : UInt8) (hl : s.length ≤ 1000000) : ∃ v h', Cal FT HKt 24 [.sc (tb s), .sc (tb [c])] h v h' ∧ h' = h ++ [SB (spl c s)] ∧ v = .sc (.slc (h.length + 0) 0 (spl c s).length (some (spl c s).length)) := by
  have e := lib_spl c s.length s (Nat.le_refl _)
  refine ⟨_, _, Cal.hook (g := splitHook) rfl (by simp only [splitHook, tb, tb_size]; rw [if_pos ⟨by omega, by simp⟩]), ?_, ?_⟩
  · simp only [tb_data, e]
  · simp only [tb_data, e]; rfl
theorem labs_R {xs ms : List Int} {l : Int} (hF : Front xs ms l) : LabR (labs xs ms) (4 * xs.length) := fun g hg => by
  have := labs_range hF (g := g) (by rw [hF.four]; exact hg)
  omega
theorem labs_len {xs ms : List Int} {l : Int} (hF : Front xs ms l) : (labs xs ms).length = 4 * xs.length := by
  rw [← hF.four]; exact lbK_len _ _ _
theorem txt_len {xs ms : List Int} {l : Int} (hF : Front xs ms l) : (txt xs (labs xs ms) l).length ≤ 65536 := by
  have h1 := txtK_len (xs := xs) (labs_mod hF) xs.length
  have h2 := itoa_len (x := l) (by have := hF.l0; have := hF.l64; omega)
  have h3 := hF.n64
  unfold txt
  simp only [List.length_append, List.length_cons, List.length_nil, loopsT]
  omega

def wsR (xs lb : List Int) (c : Nat) : List (List UInt8) := [sgT (xs.getD c 0), Lib.itoa (lb.getD (4 * c + 0) 0), Lib.itoa (lb.getD (4 * c + 1) 0), Lib.itoa (lb.getD (4 * c + 2) 0), Lib.itoa (lb.getD (4 * c + 3) 0)]
theorem wsR_spl {xs lb : List Int} {N c : Nat} (hl : LabR lb N) (hc : 4 * c + 4 ≤ N) : spl 32 (rowK xs lb c 4) = wsR xs lb c ∧ (10 : UInt8) ∉ rowK xs lb c 4 := by
  obtain ⟨a1, a2⟩ := hl (4 * c + 0) (by omega)
  obtain ⟨b1, b2⟩ := hl (4 * c + 1) (by omega)
  obtain ⟨c1, c2⟩ := hl (4 * c + 2) (by omega)
  obtain ⟨d1, d2⟩ := hl (4 * c + 3) (by omega)
  have hsg : (32 : UInt8) ∉ sgT (xs.getD c 0) ∧ (10 : UInt8) ∉ sgT (xs.getD c 0) := by unfold sgT; split <;> decide
  rw [rowK_form]
  constructor
  · rw [spl_app hsg.1, spl_app (itoa_no (by omega) (by decide)), spl_app (itoa_no (by omega) (by decide)), spl_app (itoa_no (by omega) (by decide)), spl_no (itoa_no (by omega) (by decide))]
    rfl
  · simp only [List.mem_append, List.mem_cons, not_or]
    exact ⟨hsg.2, by decide, itoa_no (by omega) (by decide), by decide, itoa_no (by omega) (by decide), by decide, itoa_no (by omega) (by decide), by decide, itoa_no (by omega) (by decide)⟩
theorem spl_rows {xs lb : List Int} (hl : LabR lb (4 * xs.length)) : ∀ (c : Nat) (R : List UInt8), c ≤ xs.length → spl 10 (txtK xs lb c ++ R) = (List.range c).map (fun i => rowK xs lb i 4) ++ spl 10 R
  | 0, R, _ => rfl
  | c + 1, R, hc => by
    have h2 := (wsR_spl (xs := xs) hl (c := c) (by omega)).2
    have e : txtK xs lb (c + 1) ++ R = txtK xs lb c ++ (rowK xs lb c 4 ++ 10 :: R) := by simp [txtK]
    rw [e, spl_rows hl c _ (by omega), spl_app h2, List.range_succ, List.map_append, List.append_assoc]
    rfl
/-- The lines of the text. -/
def linesT (xs lb : List Int) (l : Int) : List (List UInt8) := (List.range xs.length).map (fun i => rowK xs lb i 4) ++ [loopsT ++ Lib.itoa l, []]
theorem linesT_len (xs lb : List Int) (l : Int) : (linesT xs lb l).length = xs.length + 2 := by simp [linesT]
theorem linesT_row {xs lb : List Int} {l : Int} {c : Nat} (hc : c < xs.length) : (linesT xs lb l)[c]? = some (rowK xs lb c 4) := by
  unfold linesT
  rw [List.getElem?_append_left (by simp; omega)]
  simp [hc]
theorem linesT_last (xs lb : List Int) (l : Int) : (linesT xs lb l)[xs.length]? = some (loopsT ++ Lib.itoa l) := by
  unfold linesT
  rw [List.getElem?_append_right (by simp)]
  simp
theorem txt_spl {xs lb : List Int} {l : Int} (hl : LabR lb (4 * xs.length)) (h0 : 0 ≤ l) : spl 10 (txt xs lb l) = linesT xs lb l := by
  have e : txt xs lb l = txtK xs lb xs.length ++ ((loopsT ++ Lib.itoa l) ++ 10 :: []) := by simp [txt]
  have hno : (10 : UInt8) ∉ loopsT ++ Lib.itoa l := by
    rw [List.mem_append]
    rintro (h | h)
    · exact absurd h (by decide)
    · exact itoa_no h0 (by decide) h
  rw [e, spl_rows hl _ _ (Nat.le_refl _), spl_app hno]
  rfl
/-- The labels that were copied, those of the first c crossings. -/
def lbT (lb : List Int) (N c : Nat) : List (List UInt8) := (List.range N).map fun g => if g < 4 * c then Lib.itoa (lb.getD g 0) else []
theorem lbT_len (lb : List Int) (N c : Nat) : (lbT lb N c).length = N := by simp [lbT]
theorem lbT_zero (lb : List Int) (N : Nat) : (lbT lb N 0).map tb = List.replicate N (tb []) := by
  refine List.ext_getElem (by simp [lbT]) fun i h1 h2 => ?_
  simp [lbT]
theorem lbT_get {lb : List Int} {N c g : Nat} (hg : g < N) (hc : g < 4 * c) : (lbT lb N c)[g]? = some (Lib.itoa (lb.getD g 0)) := by
  simp [lbT, hg, hc]
/-- Four more. -/
theorem lbT_next {xs lb : List Int} {N c : Nat} (hc : 4 * c + 4 ≤ N) : splice ((lbT lb N c).map tb) (4 * c) (((wsR xs lb c).drop 1).map tb) = (lbT lb N (c + 1)).map tb := by
  have hl : ((wsR xs lb c).drop 1).length = 4 := rfl
  refine List.ext_getElem? fun i => ?_
  unfold splice
  have e1 : ((lbT lb N c).map tb).length = N := by simp [lbT_len]
  rcases Nat.lt_or_ge i (4 * c) with h | h
  · rw [List.getElem?_append_left (by simp [lbT_len]; omega), List.getElem?_append_left (by simp [lbT_len]; omega), List.getElem?_take, if_pos h]
    simp only [List.getElem?_map, lbT_get (lb := lb) (N := N) (c := c) (g := i) (by omega) h, lbT_get (lb := lb) (N := N) (c := c + 1) (g := i) (by omega) (by omega)]
  · rcases Nat.lt_or_ge i (4 * c + 4) with h4 | h4
    · rw [List.getElem?_append_left (by simp [lbT_len, wsR]; omega), List.getElem?_append_right (by simp [lbT_len]; omega)]
      simp only [List.getElem?_map, lbT_get (lb := lb) (N := N) (c := c + 1) (g := i) (by omega) (by omega)]
      have hlen : ((List.map tb (lbT lb N c)).take (4 * c)).length = 4 * c := by simp [lbT_len]; omega
      rw [hlen]
      have : i = 4 * c + 0 ∨ i = 4 * c + 1 ∨ i = 4 * c + 2 ∨ i = 4 * c + 3 := by omega
      rcases this with rfl | rfl | rfl | rfl <;> simp [wsR]
    · rw [List.getElem?_append_right (by simp [lbT_len, wsR]; omega), List.getElem?_drop]
      have hlen : ((List.map tb (lbT lb N c)).take (4 * c) ++ List.map tb ((wsR xs lb c).drop 1)).length = 4 * c + 4 := by simp [lbT_len, wsR]; omega
      rw [hlen]
      rw [show 4 * c + (List.map tb (List.drop 1 (wsR xs lb c))).length + (i - (4 * c + 4)) = i by simp [wsR]; omega]
      by_cases hi : i < N
      · simp [lbT, hi, show ¬ i < 4 * c by omega, show ¬ i < 4 * (c + 1) by omega]
      · rw [List.getElem?_eq_none (by simp [lbT_len]; omega), List.getElem?_eq_none (by simp [lbT_len]; omega)]
end Go.Proofs.YtehnalbdfnmphaaDoor
