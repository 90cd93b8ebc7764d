/- A binary form is read as the diagram it was written from, and the other way round: plain. -/
import Derived.Test.YtehnalbdfnmphaaDoorD1
import Derived.Test.YtehnalbdfnmphaaDoorE1
namespace Go.Proofs.YtehnalbdfnmphaaDoor
open Go.Ab
set_option linter.unusedVariables false

/-! ### The bits -/
theorem bs_bit (xs : List Int) (b : Nat) : ∀ {k i : Nat}, i < k → bs xs b k / 2 ^ i % 2 = if xs.getD (8 * b + i) 0 = 1 then 1 else 0
  | k + 1, i, hi => by
    have hlt := bs_lt xs b k
    rw [bs]
    by_cases h : i = k
    · subst h
      split
      · rw [Nat.add_div_right _ (Nat.two_pow_pos _), Nat.div_eq_of_lt hlt]
      · rw [Nat.add_zero, Nat.div_eq_of_lt hlt]
    · have ih := bs_bit xs b (k := k) (i := i) (by omega)
      have h2 : ∃ d, 2 ^ k = 2 ^ i * (2 * d) := ⟨2 ^ (k - i - 1), by rw [← Nat.mul_assoc, ← Nat.pow_succ, ← Nat.pow_add]; congr 1; omega⟩
      obtain ⟨d, hd⟩ := h2
      rw [← ih]
      split
      · rw [hd, Nat.add_mul_div_left _ _ (Nat.two_pow_pos _)]; omega
      · rw [Nat.add_zero]
theorem encL_len {xs ms : List Int} {l : Nat} (hs : ∀ x ∈ xs, Sgn x) (h4 : ms.length = 4 * xs.length) : (encL xs ms l).length = 2 + (xs.length + 7) / 8 + 2 * xs.length := by
  have h1 := cntO_four hs xs.length (Nat.le_refl _)
  unfold cntO at h1
  rw [← h4] at h1
  rw [encL, List.length_append, encA_len, tg, List.length_map, h1]
theorem encL_zero {xs ms : List Int} {l : Nat} : (encL xs ms l).getD 0 0 = xs.length := by
  unfold encL; rw [encA_done]; rfl
theorem encL_one {xs ms : List Int} {l : Nat} : (encL xs ms l).getD 1 0 = l := by
  unfold encL; rw [encA_done]; rfl
theorem encL_bit {xs ms : List Int} {l c : Nat} (hc : c < 8 * ((xs.length + 7) / 8)) : bitN (encL xs ms l) c = if xs.getD c 0 = 1 then 1 else 0 := by
  have h1 : (encL xs ms l)[2 + c / 8]? = some (bs xs (c / 8) 8) := by
    unfold encL
    rw [encA_done, List.append_assoc, List.getElem?_append_right (by simp), List.getElem?_append_left (by simp; omega)]
    simp only [List.length_cons, List.length_nil]
    rw [show 2 + c / 8 - (0 + 1 + 1) = c / 8 by omega, List.getElem?_map, List.getElem?_range (by omega)]; rfl
  unfold bitN
  rw [List.getD_eq_getElem?_getD, h1, Option.getD_some, bs_bit xs (c / 8) (by omega), show 8 * (c / 8) + c % 8 = c by omega]
theorem encL_sgs {xs ms : List Int} {l : Nat} (hs : ∀ x ∈ xs, Sgn x) : sgs (encL xs ms l) xs.length = xs := by
  refine List.ext_getElem? fun c => ?_
  by_cases hc : c < xs.length
  · rw [sgs_get hc, encL_bit (by omega)]
    have hx : xs[c]? = some (xs.getD c 0) := by simp [List.getD, hc]
    rw [hx]
    rcases hs _ (List.mem_of_getElem? hx) with h | h <;> rw [h] <;> rfl
  · rw [List.getElem?_eq_none (by rw [sgs_len]; omega), List.getElem?_eq_none (by omega)]
theorem encL_pad {xs ms : List Int} {l : Nat} : Pad (encL xs ms l) xs.length := by
  intro c h1 h2
  rw [encL_bit h2]
  have : xs.getD c 0 = 0 := by simp [List.getD, h1]
  rw [this]; decide

/-! ### The mates -/
theorem tg_len (xs ms : List Int) (h : Nat) : (tg xs ms h).length = cntO xs h := by simp [tg, cntO]
theorem tg_get {xs ms : List Int} {h : Nat} (ho : outB xs h = true) : ∀ {H : Nat}, h < H → (tg xs ms H)[cntO xs h]? = some (mateN ms h)
  | H + 1, hh => by
    rw [tg_succ]
    by_cases he : h = H
    · subst he
      rw [List.getElem?_append_right (by rw [tg_len]; omega), tg_len, Nat.sub_self, if_pos ho]; rfl
    · have ih := tg_get (ms := ms) ho (H := H) (by omega)
      rw [List.getElem?_append_left (List.getElem?_eq_some_iff.1 ih).1, ih]
/-- Drawn so far. -/
def drd (xs ms : List Int) (h i : Nat) : Bool := if outB xs i = true then decide (i < h) else decide (mateN ms i < h)
def msK (xs ms : List Int) (h : Nat) : List Int := (List.range ms.length).map fun i => if drd xs ms h i = true then ms.getD i 0 else 0
def usK (xs ms : List Int) (h : Nat) : List Bool := (List.range ms.length).map fun i => !outB xs i && drd xs ms h i
theorem mt_enc {xs ms : List Int} {l : Int} (hF : Front xs ms l) : ∀ {h : Nat}, h ≤ ms.length → mt xs ms.length (tg xs ms ms.length) h = some (msK xs ms h, usK xs ms h, cntO xs h)
  | 0, _ => by
    have hd : ∀ i, drd xs ms 0 i = false := fun i => by unfold drd; split <;> simp
    rw [mt]
    refine congrArg some (Prod.ext ?_ (Prod.ext ?_ rfl))
    · unfold msK; refine List.ext_getElem? fun i => ?_
      by_cases hi : i < ms.length <;> simp [hi, hd]
    · unfold usK; refine List.ext_getElem? fun i => ?_
      by_cases hi : i < ms.length <;> simp [hi, hd]
  | h + 1, hh => by
    have ih := mt_enc hF (h := h) (by omega)
    obtain ⟨t, h1, h2, h3, h4, h5⟩ := hF.ok h (by omega)
    have hmh : mateN ms h = t := by unfold mateN; rw [getD_at h1]; simp
    have hmt : mateN ms t = h := by unfold mateN; rw [getD_at h4]; simp
    have hinv : ∀ i, i < ms.length → mateN ms i = h → i = t := fun i hi he => by
      obtain ⟨m, g1, g2, g3, g4, g5⟩ := hF.ok i hi
      have : mateN ms i = m := by unfold mateN; rw [getD_at g1]; simp
      rw [this] at he
      subst he
      rw [h1] at g4
      have := Option.some.inj g4
      omega
    cases ho : outB xs h with
    | false =>
      have hot : outB xs t = true := by rw [ho] at h5; cases h6 : outB xs t <;> simp_all
      have hd : ∀ i, i < ms.length → drd xs ms (h + 1) i = drd xs ms h i := fun i hi => by
        unfold drd
        split
        · rename_i hoi
          have : i ≠ h := fun he => by subst he; rw [ho] at hoi; cases hoi
          rw [decide_eq_decide]; omega
        · rename_i hoi
          have : mateN ms i ≠ h := fun he => hoi (by rw [hinv i hi he, hot])
          rw [decide_eq_decide]; omega
      rw [mt_skip ih ho, cntO_succ, ho]
      refine congrArg some (Prod.ext ?_ (Prod.ext ?_ rfl))
      · exact List.map_congr_left fun i hi => by rw [hd i (by simpa using hi)]
      · exact List.map_congr_left fun i hi => by rw [hd i (by simpa using hi)]
    | true =>
      have hot : outB xs t = false := by rw [ho] at h5; cases h6 : outB xs t <;> simp_all
      have hT : (tg xs ms ms.length).getD (cntO xs h) 0 = t := by rw [List.getD_eq_getElem?_getD, tg_get ho (by omega), hmh]; rfl
      have hut : (usK xs ms h).getD t false = false := by
        rw [List.getD_eq_getElem?_getD, usK, List.getElem?_map, List.getElem?_range h2]
        simp [drd, hot, hmt]
      have hd : ∀ i, i < ms.length → drd xs ms (h + 1) i = (drd xs ms h i || decide (i = h) || decide (i = t)) := fun i hi => by
        unfold drd
        split
        · rename_i hoi
          have : i ≠ t := fun he => by subst he; rw [hot] at hoi; cases hoi
          simp only [this, decide_false, Bool.or_false, ← Bool.decide_or, decide_eq_decide]; omega
        · rename_i hoi
          have : i ≠ h := fun he => hoi (by rw [he, ho])
          simp only [this, decide_false, Bool.or_false, ← Bool.decide_or, decide_eq_decide]
          constructor
          · intro he
            by_cases h9 : mateN ms i = h
            · exact .inr (hinv i hi h9)
            · exact .inl (by omega)
          · rintro (he | rfl)
            · omega
            · omega
      rw [mt_next ih ho (by rw [hT, hut, hot]; simp; exact h2), cntO_succ, ho, hT]
      refine congrArg some (Prod.ext ?_ (Prod.ext ?_ rfl))
      · refine List.ext_getElem? fun i => ?_
        by_cases hi : i < ms.length
        · simp only [List.getElem?_set, msK, List.length_map, List.length_range, List.length_set, List.getElem?_map, List.getElem?_range hi, Option.map_some, hd i hi]
          by_cases e1 : t = i
          · subst e1
            rw [if_pos rfl, if_pos hi]
            simp [List.getD, h4]
          · rw [if_neg e1]
            by_cases e2 : h = i
            · subst e2
              rw [if_pos rfl, if_pos hi]
              simp [List.getD, h1]
            · rw [if_neg e2]
              simp [show i ≠ h from fun e => e2 e.symm, show i ≠ t from fun e => e1 e.symm]
        · rw [List.getElem?_eq_none (by simp [msK]; omega), List.getElem?_eq_none (by simp [msK]; omega)]
      · refine List.ext_getElem? fun i => ?_
        by_cases hi : i < ms.length
        · simp only [List.getElem?_set, usK, List.length_map, List.length_range, List.getElem?_map, List.getElem?_range hi, Option.map_some, hd i hi]
          by_cases e1 : t = i
          · subst e1
            rw [if_pos rfl, if_pos hi]
            simp [hot]
          · rw [if_neg e1]
            by_cases e2 : h = i
            · subst e2
              simp [ho]
            · simp [show i ≠ h from fun e => e2 e.symm, show i ≠ t from fun e => e1 e.symm]
        · rw [List.getElem?_eq_none (by simp [usK]; omega), List.getElem?_eq_none (by simp [usK]; omega)]
theorem msK_all {xs ms : List Int} {l : Int} (hF : Front xs ms l) : msK xs ms ms.length = ms := by
  refine List.ext_getElem? fun i => ?_
  by_cases hi : i < ms.length
  · obtain ⟨t, h1, h2, h3, h4, h5⟩ := hF.ok i hi
    have hmi : mateN ms i = t := by unfold mateN; rw [getD_at h1]; simp
    have : drd xs ms ms.length i = true := by unfold drd; rw [hmi]; split <;> simp [hi, h2]
    simp only [msK, List.getElem?_map, List.getElem?_range hi, Option.map_some, this, if_true, h1, List.getD_eq_getElem?_getD, Option.getD_some]
  · rw [List.getElem?_eq_none (by simp [msK]; omega), List.getElem?_eq_none (by omega)]

theorem encL_hd {xs ms : List Int} {l : Int} (hF : Front xs ms l) : Hd (encL xs ms l.toNat) xs.length l.toNat := by
  have h1 := hF.n64
  have h2 := hF.l64
  have h3 := hF.l0
  have hl := encL_len (l := l.toNat) hF.sgn hF.four
  exact ⟨by omega, encL_zero, encL_one, by omega, by omega, by omega⟩
theorem encL_drop {xs ms : List Int} {l : Nat} : (encL xs ms l).drop (2 + (xs.length + 7) / 8) = tg xs ms ms.length := by
  unfold encL; rw [List.drop_left' (encA_len _ _ _)]
/-- The binary form of a diagram is read as the diagram. -/
theorem dec_enc {xs ms : List Int} {l : Int} (hV : PV xs ms l) : decR (encL xs ms l.toNat) = .ok xs ms l.toNat := by
  have hF := hV.1
  have h := decR_ok (k := cntO xs ms.length) (ms := ms) (us := usK xs ms ms.length) (encL_hd hF) encL_pad
  rw [encL_sgs hF.sgn, encL_drop, ← hF.four, mt_enc hF (Nat.le_refl _), msK_all hF] at h
  refine h rfl ?_
  rw [Int.toNat_of_nonneg hF.l0]; exact hV
/-- A part of it is too short. -/
theorem dec_short {xs ms : List Int} {l : Int} (hF : Front xs ms l) {k : Nat} (hk : k < (encL xs ms l.toNat).length) : decR ((encL xs ms l.toNat).take k) = .err 4 := by
  have hl := encL_len (l := l.toNat) hF.sgn hF.four
  have hh := encL_hd hF
  have hlen : ((encL xs ms l.toNat).take k).length = k := by simp; omega
  unfold decR
  by_cases h2 : k < 2
  · rw [if_pos (by omega)]
  · have e0 : ((encL xs ms l.toNat).take k).getD 0 0 = xs.length := by rw [List.getD_eq_getElem?_getD, List.getElem?_take_of_lt (by omega), ← List.getD_eq_getElem?_getD]; exact encL_zero
    have e1 : ((encL xs ms l.toNat).take k).getD 1 0 = l.toNat := by rw [List.getD_eq_getElem?_getD, List.getElem?_take_of_lt (by omega), ← List.getD_eq_getElem?_getD]; exact encL_one
    rw [if_neg (by omega), e0, e1, if_neg hh.fit, hlen, if_pos (by omega)]
/-- One byte more is too much. -/
theorem dec_long {xs ms : List Int} {l : Int} (hF : Front xs ms l) (x : Nat) : decR (encL xs ms l.toNat ++ [x]) = .err 3 := by
  have hl := encL_len (l := l.toNat) hF.sgn hF.four
  have hh := encL_hd hF
  have hlen : (encL xs ms l.toNat ++ [x]).length = (encL xs ms l.toNat).length + 1 := by simp
  have e0 : (encL xs ms l.toNat ++ [x]).getD 0 0 = xs.length := by rw [List.getD_eq_getElem?_getD, List.getElem?_append_left (by omega), ← List.getD_eq_getElem?_getD]; exact encL_zero
  have e1 : (encL xs ms l.toNat ++ [x]).getD 1 0 = l.toNat := by rw [List.getD_eq_getElem?_getD, List.getElem?_append_left (by omega), ← List.getD_eq_getElem?_getD]; exact encL_one
  unfold decR
  rw [if_neg (by omega), e0, e1, if_neg hh.fit, if_neg (by omega), if_pos (by omega)]

/-! ### What was read is written again -/
theorem bs_mod {xs : List Int} {b v : Nat} (hx : ∀ i, i < 8 → (xs.getD (8 * b + i) 0 = 1 ↔ v / 2 ^ i % 2 = 1)) : ∀ {k : Nat}, k ≤ 8 → bs xs b k = v % 2 ^ k
  | 0, _ => by simp [bs, Nat.mod_one]
  | k + 1, hk => by
    rw [bs, bs_mod hx (by omega), Nat.pow_succ, Nat.mod_mul]
    congr 1
    have := hx k (by omega)
    split
    · rename_i h; rw [this.1 h, Nat.mul_one]
    · rename_i h
      have h2 : v / 2 ^ k % 2 = 0 := by
        have h3 : ¬ v / 2 ^ k % 2 = 1 := fun e => h (this.2 e)
        omega
      rw [h2, Nat.mul_zero]
/-- What is drawn is what was read. -/
theorem mt_at {xs : List Int} {N : Nat} {T : List Nat} : ∀ {h : Nat} {ms : List Int} {us : List Bool} {k : Nat}, mt xs N T h = some (ms, us, k) → h ≤ N → ∀ i, i < h → outB xs i = true → ms.getD i 0 = (T.getD (cntO xs i) 0 : Nat)
  | h + 1, ms, us, k, hm, hN, i, hi, hoi => by
    cases h1 : mt xs N T h with
    | none => rw [mt, h1] at hm; cases hm
    | some p =>
      obtain ⟨ms', us', k'⟩ := p
      obtain ⟨l1, l2, l3⟩ := mt_len h1
      cases ho : outB xs h with
      | false =>
        rw [mt_skip h1 ho] at hm
        cases hm
        have : i ≠ h := fun e => by subst e; rw [ho] at hoi; cases hoi
        exact mt_at h1 (by omega) i (by omega) hoi
      | true =>
        by_cases hb : N ≤ T.getD k' 0 ∨ us'.getD (T.getD k' 0) false = true ∨ outB xs (T.getD k' 0) = true
        · rw [mt_bad h1 ho hb] at hm; cases hm
        · rw [mt_next h1 ho hb] at hm
          cases hm
          have hT : T.getD k' 0 ≠ i := fun e => hb (.inr (.inr (by rw [e]; exact hoi)))
          rw [List.getD_eq_getElem?_getD, List.getElem?_set_ne hT]
          by_cases e : h = i
          · subst e
            rw [List.getElem?_set_self (by omega), Option.getD_some, l3]
          · rw [List.getElem?_set_ne e, ← List.getD_eq_getElem?_getD]
            exact mt_at h1 (by omega) i (by omega) hoi
theorem take_next {T : List Nat} {k : Nat} (hk : k < T.length) : T.take (k + 1) = T.take k ++ [T.getD k 0] := by
  rw [List.take_add_one, List.getD_eq_getElem?_getD, List.getElem?_eq_getElem hk]; rfl
theorem tg_take {xs ms : List Int} {T : List Nat} {N : Nat} (hT : cntO xs N ≤ T.length) (hg : ∀ i, i < N → outB xs i = true → mateN ms i = T.getD (cntO xs i) 0) : ∀ {h : Nat}, h ≤ N → tg xs ms h = T.take (cntO xs h)
  | 0, _ => by simp [tg, cntO]
  | h + 1, hh => by
    rw [tg_succ, tg_take hT hg (by omega), cntO_succ]
    cases ho : outB xs h with
    | false => simp
    | true =>
      have h1 := cntO_succ xs h
      rw [if_pos ho] at h1
      have h2 := cntO_mono xs (h + 1) (N - (h + 1))
      rw [show h + 1 + (N - (h + 1)) = N by omega] at h2
      rw [if_pos rfl, if_pos rfl, take_next (by omega), hg h (by omega) ho]
theorem enc_dec {L : List Nat} (h8 : ∀ x ∈ L, x < 256) {xs ms : List Int} {l : Nat} (h : decR L = .ok xs ms l) : encL xs ms l = L := by
  unfold decR at h
  split at h
  · cases h
  split at h
  · cases h
  split at h
  · cases h
  split at h
  · cases h
  split at h
  · cases h
  rename_i a1 a2 a3 a4 a5
  split at h
  · cases h
  rename_i ms' us' k' hm
  split at h
  rotate_left
  · cases h
  rename_i hV
  cases h
  generalize hn : L.getD 0 0 = n at *
  have hxl : (sgs L n).length = n := sgs_len L n
  have hpad : Pad L n := Classical.byContradiction fun h => a5 h
  obtain ⟨l1, l2, l3⟩ := mt_len hm
  have hc4 := cntO_four (sgs_sgn L n) n (by rw [hxl]; exact Nat.le_refl _)
  have hTl : (L.drop (2 + (n + 7) / 8)).length = 2 * n := by simp; omega
  have hA : encA (sgs L n) (L.getD 1 0) (sgs L n).length = L.take (2 + (n + 7) / 8) := by
    rw [encA_done, hxl]
    refine List.ext_getElem? fun j => ?_
    by_cases hj : j < 2 + (n + 7) / 8
    · rw [List.getElem?_take_of_lt hj]
      have hLj : L[j]? = some (L.getD j 0) := by simp [List.getD, show j < L.length by omega]
      rw [hLj]
      by_cases h0 : j = 0
      · subst h0; rw [hn]; rfl
      by_cases h1 : j = 1
      · subst h1; rfl
      rw [List.getElem?_append_right (by simp; omega), List.getElem?_map]
      simp only [List.length_cons, List.length_nil]
      rw [List.getElem?_range (by omega), Option.map_some, Option.some.injEq]
      have hv : L.getD j 0 < 256 := h8 _ (List.mem_of_getElem? hLj)
      rw [bs_mod (v := L.getD j 0) (fun i hi => ?_) (Nat.le_refl 8), Nat.mod_eq_of_lt (by omega)]
      have hb : bitN L (8 * (j - (0 + 1 + 1)) + i) = L.getD j 0 / 2 ^ i % 2 := by
        unfold bitN
        rw [show 2 + (8 * (j - (0 + 1 + 1)) + i) / 8 = j by omega, show (8 * (j - (0 + 1 + 1)) + i) % 8 = i by omega]
      rw [← hb]
      by_cases hcn : 8 * (j - (0 + 1 + 1)) + i < n
      · rw [List.getD_eq_getElem?_getD, sgs_get hcn, Option.getD_some]
        have := bitN_lt L (8 * (j - (0 + 1 + 1)) + i)
        omega
      · have hp := hpad (8 * (j - (0 + 1 + 1)) + i) (by omega) (by omega)
        have h0 : (sgs L n).getD (8 * (j - (0 + 1 + 1)) + i) 0 = 0 := by rw [List.getD_eq_getElem?_getD, List.getElem?_eq_none (by omega)]; rfl
        rw [h0]
        exact ⟨fun h => by omega, fun h => absurd h hp⟩
    · rw [List.getElem?_eq_none (by simp; omega), List.getElem?_eq_none (by simp; omega)]
  have hB : tg (sgs L n) ms ms.length = L.drop (2 + (n + 7) / 8) := by
    have ht := tg_take (xs := sgs L n) (ms := ms) (T := L.drop (2 + (n + 7) / 8)) (N := 4 * n) (by omega) (fun i hi ho => by
      have := mt_at hm (Nat.le_refl _) i hi ho
      unfold mateN
      rw [this, Int.toNat_natCast]) (Nat.le_refl _)
    rw [l1, ht, hc4, List.take_of_length_le (by omega)]
  rw [encL, hA, hB, List.take_append_drop]
end Go.Proofs.YtehnalbdfnmphaaDoor
