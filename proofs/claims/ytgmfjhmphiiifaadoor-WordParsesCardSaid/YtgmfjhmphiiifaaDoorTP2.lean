/- Plain law: the text of a word, and what is read from a text. -/
import Derived.Test.YtgmfjhmphiiifaaDoorTP1
namespace Go.Proofs.YtgmfjhmphiiifaaDoor
open Go.Lib
set_option linter.unusedVariables false
set_option linter.unusedSimpArgs false

/-! ### Split -/
theorem index_one : ∀ (w r : List UInt8), (32 : UInt8) ∉ w → index (w ++ 32 :: r) [32] = w.length
  | [], r, _ => by simp [index, List.isPrefixOf]
  | b :: w, r, h => by
    have hb : (32 : UInt8) ≠ b := fun e => h (by simp [e])
    have ih := index_one w r (fun e => h (by simp [e]))
    simp only [List.cons_append]
    unfold index
    rw [ih]
    have h1 : ([32] : List UInt8).isPrefixOf (b :: (w ++ 32 :: r)) = false := by simp [List.isPrefixOf, hb]
    have h2 : ((w.length : Int) == -1) = false := by rw [beq_eq_false_iff_ne]; omega
    simp [h1, h2]
theorem index_no : ∀ (w : List UInt8), (32 : UInt8) ∉ w → index w [32] = -1
  | [], _ => rfl
  | b :: w, h => by
    have hb : (32 : UInt8) ≠ b := fun e => h (by simp [e])
    have ih := index_no w (fun e => h (by simp [e]))
    unfold index
    rw [ih]
    have h1 : ([32] : List UInt8).isPrefixOf (b :: w) = false := by simp [List.isPrefixOf, hb]
    simp [h1]
theorem split_one (w : List UInt8) (h : (32 : UInt8) ∉ w) : split w [32] = [w] := by
  unfold split
  rw [count_miss (index_no w h)]; rfl
theorem split_cons (w r : List UInt8) (h : (32 : UInt8) ∉ w) : split (w ++ 32 :: r) [32] = w :: split r [32] := by
  have hi := index_one w r h
  unfold split
  rw [count_hit (by simp) hi]
  have e : (w ++ 32 :: r).drop (w.length + 1) = r := by
    rw [List.drop_append]; simp
  have e1 : (w ++ 32 :: r).drop (w.length + ([32] : List UInt8).length) = r := e
  rw [e1, Nat.add_comm 1]
  show (if index (w ++ 32 :: r) [32] == -1 then _ else _) = _
  have h2 : ((w.length : Int) == -1) = false := by rw [beq_eq_false_iff_ne]; omega
  rw [hi, h2]
  simp only [Bool.false_eq_true, if_false, Int.toNat_natCast, Nat.add_zero, e1]
  rw [List.take_left]
theorem split_join : ∀ (ws : List (List UInt8)), ws ≠ [] → (∀ w ∈ ws, (32 : UInt8) ∉ w) → split (joinS ws) [32] = ws
  | [], h, _ => absurd rfl h
  | [w], _, h => by rw [joinS_one]; exact split_one w (h w (by simp))
  | w :: v :: r, _, h => by
    rw [joinS_cons, split_cons w _ (h w (by simp)), split_join (v :: r) (by simp) (fun x hx => h x (by simp at hx ⊢; right; exact hx))]

theorem dgt_ne {c : UInt8} (h : dgt c) : c ≠ 32 ∧ c ≠ 47 := by
  unfold dgt at h
  exact ⟨fun e => by subst e; exact absurd h.1 (by decide), fun e => by subst e; exact absurd h.1 (by decide)⟩
theorem splitK_le (sep : List UInt8) : ∀ (k : Nat) (s : List UInt8), (Lib.splitK sep 0 k s).length ≤ k + 1
  | 0, s => Nat.le_refl _
  | k + 1, s => by
    unfold Lib.splitK
    split
    · simp
    · have := splitK_le sep k (s.drop ((Lib.index s sep).toNat + sep.length))
      simp only [List.length_cons]; omega
theorem split_le (s sep : List UInt8) : (Lib.split s sep).length ≤ s.length + 2 := by
  have h1 := splitK_le sep (Lib.count s sep) s
  have h2 := Lib.count_le s sep
  unfold Lib.split; omega

theorem split_short (s : List UInt8) : ∀ w ∈ Lib.split s [32], w.length ≤ s.length := by
  have : ∀ (k : Nat) (s : List UInt8), ∀ w ∈ Lib.splitK [32] 0 k s, w.length ≤ s.length := by
    intro k
    induction k with
    | zero => intro s w hw; simp [Lib.splitK] at hw; subst hw; exact Nat.le_refl _
    | succ k ih =>
      intro s w hw
      unfold Lib.splitK at hw
      split at hw
      · simp at hw; subst hw; exact Nat.le_refl _
      · rcases List.mem_cons.1 hw with rfl | hw
        · simp; omega
        · have := ih _ w hw
          rw [List.length_drop] at this; omega
  exact this _ s

theorem first32 : ∀ s : List UInt8, (32 : UInt8) ∉ s ∨ ∃ w r, s = w ++ 32 :: r ∧ (32 : UInt8) ∉ w
  | [] => .inl (by simp)
  | c :: s => by
    by_cases hc : c = 32
    · subst hc; exact .inr ⟨[], s, rfl, by simp⟩
    · rcases first32 s with h | ⟨w, r, rfl, h⟩
      · exact .inl (by simp [h, Ne.symm hc])
      · exact .inr ⟨c :: w, r, rfl, by simp [h, Ne.symm hc]⟩
theorem join_split : ∀ (n : Nat) (s : List UInt8), s.length ≤ n → joinS (split s [32]) = s ∧ split s [32] ≠ []
  | 0, s, h => by
    have : s = [] := List.eq_nil_of_length_eq_zero (by omega)
    subst this
    rw [split_one _ (by simp)]
    exact ⟨joinS_one _, by simp⟩
  | n + 1, s, h => by
    rcases first32 s with h1 | ⟨w, r, rfl, h1⟩
    · rw [split_one s h1]; exact ⟨joinS_one _, by simp⟩
    · rw [split_cons w r h1]
      have ih := join_split n r (by simp at h; omega)
      refine ⟨?_, by simp⟩
      cases hs : split r [32] with
      | nil => exact absurd hs ih.2
      | cons v t => rw [joinS_cons, ← hs, ih.1]

/-! ### Letters -/
def digs : List UInt8 → Nat → Option Nat
  | [], n => some n
  | c :: r, n => if 48 ≤ c.toNat ∧ c.toNat ≤ 57 then (if 1000000 < 10 * n + (c.toNat - 48) then none else digs r (10 * n + (c.toNat - 48))) else none
theorem digs_nil (n : Nat) : digs [] n = some n := rfl
theorem digs_cons (c : UInt8) (r : List UInt8) (n : Nat) : digs (c :: r) n = if 48 ≤ c.toNat ∧ c.toNat ≤ 57 then (if 1000000 < 10 * n + (c.toNat - 48) then none else digs r (10 * n + (c.toNat - 48))) else none := rfl
def letP : List UInt8 → Option Int
  | c :: d :: r => if (c.toNat = 120 ∨ c.toNat = 88) ∧ d.toNat ≠ 48 then (digs (d :: r) 0).map (fun n : Nat => if c.toNat = 88 then -(n : Int) else (n : Int)) else none
  | _ => none
theorem letP_cons (c d : UInt8) (r : List UInt8) : letP (c :: d :: r) = if (c.toNat = 120 ∨ c.toNat = 88) ∧ d.toNat ≠ 48 then (digs (d :: r) 0).map (fun n : Nat => if c.toNat = 88 then -(n : Int) else (n : Int)) else none := rfl
def letT (x : Int) : List UInt8 := if x < 0 then 88 :: itoa (-x) else 120 :: itoa x
def wordS (xs : List Int) : List UInt8 := joinS (xs.map letT)
def wordT (xs : List Int) : List UInt8 := if xs = [] then [49] else wordS xs

theorem digs_app : ∀ (l m : List UInt8) (a b : Nat), digs l a = some b → digs (l ++ m) a = digs m b
  | [], m, a, b, h => by
    rw [digs_nil] at h
    injection h with h
    subst h; rfl
  | c :: r, m, a, b, h => by
    rw [digs_cons] at h
    rw [List.cons_append, digs_cons]
    split at h
    · rename_i h1
      rw [if_pos h1]
      split at h
      · cases h
      · rename_i h2
        rw [if_neg h2]
        exact digs_app r m _ b h
    · cases h
theorem digs_dec (u : Nat) (hu : u ≤ 1000000) : digs (decDigits u) 0 = some u := by
  induction u using Nat.strongRecOn with
  | _ u ih =>
    by_cases h : u < 10
    · rw [decDigits_one h]
      obtain ⟨h1, h2⟩ := dgt_of h
      unfold dgt at h1
      rw [digs_cons, if_pos h1, if_neg (by omega), digs_nil, h2]
      congr 1; omega
    · rw [decDigits, dif_neg h, digs_app _ _ _ _ (ih (u / 10) (by omega) (by omega))]
      obtain ⟨h1, h2⟩ := dgt_of (Nat.mod_lt u (by decide : 0 < 10))
      unfold dgt at h1
      rw [digs_cons, if_pos h1, if_neg (by omega), digs_nil, h2]
      congr 1; omega
theorem dec_head (u : Nat) (hu : 1 ≤ u) : ∃ d r, decDigits u = d :: r ∧ d.toNat ≠ 48 := by
  induction u using Nat.strongRecOn with
  | _ u ih =>
    by_cases h : u < 10
    · rw [decDigits_one h]
      exact ⟨_, _, rfl, by rw [(dgt_of h).2]; omega⟩
    · rw [decDigits, dif_neg h]
      obtain ⟨d, r, h1, h2⟩ := ih (u / 10) (by omega) (by omega)
      rw [h1]
      exact ⟨d, _, rfl, h2⟩
/-- A letter. -/
def Ltr (x : Int) : Prop := x ≠ 0 ∧ x ≤ 1000000 ∧ -1000000 ≤ x
theorem letT_eq {x : Int} (h : Ltr x) : letT x = (if x < 0 then 88 else 120) :: decDigits x.natAbs := by
  unfold letT
  split
  · rw [itoa_nat (by omega), show (-x).toNat = x.natAbs by omega]
  · rw [itoa_nat (by omega), show x.toNat = x.natAbs by omega]
theorem letP_letT {x : Int} (h : Ltr x) : letP (letT x) = some x := by
  have hx := h
  obtain ⟨h1, h2, h3⟩ := h
  obtain ⟨d, r, e1, e2⟩ := dec_head x.natAbs (by omega)
  have e3 := digs_dec x.natAbs (by omega)
  rw [letT_eq hx, e1]
  rw [e1] at e3
  by_cases hn : x < 0
  · rw [if_pos hn, letP_cons, if_pos ⟨.inr rfl, e2⟩, e3]
    simp only [Option.map_some]
    rw [if_pos (show UInt8.toNat 88 = 88 from rfl)]
    congr 1; omega
  · rw [if_neg hn, letP_cons, if_pos ⟨.inl rfl, e2⟩, e3]
    simp only [Option.map_some]
    rw [if_neg (by decide)]
    congr 1; omega
theorem dec_next {m k : Nat} (hm : 1 ≤ m) (hk : k < 10) : decDigits (10 * m + k) = decDigits m ++ [UInt8.ofNat (48 + k)] := by
  rw [decDigits, dif_neg (by omega)]
  congr 2
  · omega
  · congr 2; omega
theorem digs_inv : ∀ (l : List UInt8) (a n : Nat), 1 ≤ a → a ≤ 1000000 → digs l a = some n → decDigits n = decDigits a ++ l ∧ 1 ≤ n ∧ n ≤ 1000000
  | [], a, n, h1, h2, h => by
    rw [digs_nil] at h
    injection h with h
    subst h
    exact ⟨by simp, h1, h2⟩
  | c :: r, a, n, h1, h2, h => by
    rw [digs_cons] at h
    split at h
    · rename_i hc
      split at h
      · cases h
      · rename_i hb
        obtain ⟨e1, e2, e3⟩ := digs_inv r _ n (by omega) (by omega) h
        refine ⟨?_, e2, e3⟩
        rw [e1, dec_next h1 (by omega), List.append_assoc]
        have : UInt8.ofNat (48 + (c.toNat - 48)) = c := by rw [show 48 + (c.toNat - 48) = c.toNat by omega]; exact UInt8.ofNat_toNat
        rw [this]; rfl
    · cases h
theorem letT_letP : ∀ {p : List UInt8} {x : Int}, letP p = some x → letT x = p ∧ Ltr x
  | [], x, h => by simp [letP] at h
  | [c], x, h => by simp [letP] at h
  | c :: d :: r, x, h => by
    rw [letP_cons] at h
    split at h
    · rename_i hc
      cases hd : digs (d :: r) 0 with
      | none => rw [hd] at h; cases h
      | some n =>
        rw [hd] at h
        simp only [Option.map_some, Option.some.injEq] at h
        rw [digs_cons] at hd
        split at hd
        · rename_i hg
          split at hd
          · cases hd
          · obtain ⟨e1, e2, e3⟩ := digs_inv r _ n (by omega) (by omega) hd
            have e4 : decDigits n = d :: r := by
              rw [e1, show 10 * 0 + (d.toNat - 48) = d.toNat - 48 by omega, decDigits_one (by omega)]
              have : UInt8.ofNat (48 + (d.toNat - 48)) = d := by rw [show 48 + (d.toNat - 48) = d.toNat by omega]; exact UInt8.ofNat_toNat
              rw [this]; rfl
            have hx : Ltr x := by
              subst h
              unfold Ltr
              split <;> omega
            refine ⟨?_, hx⟩
            rw [letT_eq hx]
            rcases hc.1 with h120 | h88
            · rw [if_neg (by omega)] at h
              subst h
              rw [if_neg (by omega), Int.natAbs_natCast, e4]
              congr 1
              exact UInt8.toNat_inj.1 h120.symm
            · rw [if_pos h88] at h
              subst h
              rw [if_pos (by omega), Int.natAbs_neg, Int.natAbs_natCast, e4]
              congr 1
              exact UInt8.toNat_inj.1 h88.symm
        · cases hd
    · cases h

def parsP : List (List UInt8) → Option (List Int)
  | [] => some []
  | w :: r => match letP w with
    | some v => (parsP r).map (v :: ·)
    | none => none
theorem parsP_snoc {v : Int} {w : List UInt8} (hv : letP w = some v) : ∀ {ws : List (List UInt8)} {out : List Int}, parsP ws = some out → parsP (ws ++ [w]) = some (out ++ [v])
  | [], out, h => by
    simp only [parsP, Option.some.injEq] at h
    subst h
    simp [parsP, hv]
  | u :: r, out, h => by
    simp only [parsP, List.cons_append] at h ⊢
    split at h
    · rename_i x hx
      cases hr : parsP r with
      | none => rw [hr] at h; cases h
      | some o =>
        rw [hr] at h
        simp only [Option.map_some, Option.some.injEq] at h
        subst h
        rw [parsP_snoc hv hr]; rfl
    · cases h
theorem parsP_fail {w : List UInt8} (hv : letP w = none) : ∀ {ws : List (List UInt8)}, w ∈ ws → parsP ws = none
  | [], h => by simp at h
  | u :: r, h => by
    simp only [parsP]
    rcases List.mem_cons.1 h with rfl | h
    · rw [hv]
    · rw [parsP_fail hv h]
      cases letP u <;> rfl
theorem parsP_len : ∀ {ws : List (List UInt8)} {out : List Int}, parsP ws = some out → out.length = ws.length
  | [], out, h => by simp only [parsP, Option.some.injEq] at h; subst h; rfl
  | u :: r, out, h => by
    simp only [parsP] at h
    split at h
    · cases hr : parsP r with
      | none => rw [hr] at h; cases h
      | some o => rw [hr] at h; simp only [Option.map_some, Option.some.injEq] at h; subst h; simp [parsP_len hr]
    · cases h
theorem parsP_map : ∀ {xs : List Int}, (∀ x ∈ xs, Ltr x) → parsP (xs.map letT) = some xs
  | [], _ => rfl
  | x :: r, h => by
    simp only [List.map_cons, parsP, letP_letT (h x (by simp)), parsP_map (xs := r) (fun y hy => h y (by simp [hy])), Option.map_some]
theorem parsP_inv : ∀ {ws : List (List UInt8)} {xs : List Int}, parsP ws = some xs → ws = xs.map letT ∧ ∀ x ∈ xs, Ltr x
  | [], xs, h => by simp only [parsP, Option.some.injEq] at h; subst h; simp
  | w :: r, xs, h => by
    simp only [parsP] at h
    split at h
    · rename_i v hv
      cases hr : parsP r with
      | none => rw [hr] at h; cases h
      | some o =>
        rw [hr] at h
        simp only [Option.map_some, Option.some.injEq] at h
        subst h
        obtain ⟨e1, e2⟩ := parsP_inv hr
        obtain ⟨e3, e4⟩ := letT_letP hv
        refine ⟨by rw [List.map_cons, e3, ← e1], fun x hx => ?_⟩
        rcases List.mem_cons.1 hx with rfl | hx
        · exact e4
        · exact e2 x hx
    · cases h

/-! ### Words -/
theorem letT_sp {x : Int} (h : Ltr x) : (32 : UInt8) ∉ letT x := by
  rw [letT_eq h]
  intro hm
  rcases List.mem_cons.1 hm with hm | hm
  · split at hm <;> exact absurd hm (by decide)
  · exact (dgt_ne (dec_dgt _ _ hm)).1 rfl
theorem letT_two {x : Int} (h : Ltr x) : 2 ≤ (letT x).length ∧ (letT x).length ≤ 9 := by
  rw [letT_eq h, List.length_cons, decDigits_length]
  have h1 := nDigits_pos x.natAbs
  obtain ⟨a, b, c⟩ := h
  have h2 : nDigits x.natAbs ≤ 8 := by
    rw [← decDigits_length]
    have := itoa_length_le (x.natAbs : Int) (by omega) (by omega)
    rcases Nat.lt_or_ge 8 (nDigits x.natAbs) with h9 | h9
    · exfalso
      have h10 : 10 ^ 8 ≤ x.natAbs := by
        have : ∀ u : Nat, u < 10 ^ 8 → nDigits u ≤ 8 := by
          intro u hu
          by_cases h1 : u < 10
          · rw [nDigits_small h1]; omega
          by_cases h2 : u < 100
          · rw [nDigits_unique 1 u (by omega) (by omega)]; omega
          by_cases h3 : u < 1000
          · rw [nDigits_unique 2 u (by omega) (by omega)]; omega
          by_cases h4 : u < 10000
          · rw [nDigits_unique 3 u (by omega) (by omega)]; omega
          by_cases h5 : u < 100000
          · rw [nDigits_unique 4 u (by omega) (by omega)]; omega
          by_cases h6 : u < 1000000
          · rw [nDigits_unique 5 u (by omega) (by omega)]; omega
          by_cases h7 : u < 10000000
          · rw [nDigits_unique 6 u (by omega) (by omega)]; omega
          · rw [nDigits_unique 7 u (by omega) (by omega)]; omega
        rcases Nat.lt_or_ge x.natAbs (10 ^ 8) with h | h
        · have := this _ h; omega
        · exact h
      omega
    · rw [decDigits_length]; exact h9
  omega
theorem wordS_first (x : Int) : wordS [x] = letT x := joinS_one _
theorem wordS_snoc {xs : List Int} (x : Int) (h : xs ≠ []) : wordS (xs ++ [x]) = wordS xs ++ 32 :: letT x := by
  unfold wordS
  rw [List.map_append]
  exact joinS_snoc _ (by simpa using h)
theorem wordS_len {xs : List Int} (h : ∀ x ∈ xs, Ltr x) : (wordS xs).length ≤ xs.length * 10 := by
  have := joinS_len (xs.map letT) 9 (fun w hw => by
    obtain ⟨x, hx, rfl⟩ := List.mem_map.1 hw
    exact (letT_two (h x hx)).2)
  rw [List.length_map] at this
  exact this
theorem wordS_ne {xs : List Int} (h : ∀ x ∈ xs, Ltr x) : wordS xs ≠ [49] := by
  intro he
  have hl := congrArg List.length he
  match xs, h with
  | [], _ => simp [wordS, joinS] at hl
  | [x], h =>
    rw [wordS_first] at hl
    have := (letT_two (h x (by simp))).1
    simp at hl; omega
  | x :: y :: r, h =>
    have := (letT_two (h x (by simp))).1
    simp only [wordS, List.map_cons, joinS_cons, List.length_append, List.length_cons, List.length_nil] at hl
    omega
/-- What Parse returns: the word, or none. -/
def readW (s : List UInt8) : Option (List Int) := if s = [49] then some [] else parsP (split s [32])
theorem read_text {xs : List Int} (h : ∀ x ∈ xs, Ltr x) : readW (wordT xs) = some xs := by
  unfold readW wordT
  by_cases h0 : xs = []
  · subst h0; rfl
  · rw [if_neg h0, if_neg (wordS_ne h), wordS, split_join _ (by simpa using h0) (fun w hw => by
      obtain ⟨x, hx, rfl⟩ := List.mem_map.1 hw
      exact letT_sp (h x hx)), parsP_map h]
theorem text_read {s : List UInt8} {xs : List Int} (h : readW s = some xs) : wordT xs = s ∧ ∀ x ∈ xs, Ltr x := by
  unfold readW at h
  split at h
  · rename_i h1
    simp only [Option.some.injEq] at h
    subst h h1
    exact ⟨rfl, by simp⟩
  · obtain ⟨e1, e2⟩ := parsP_inv h
    obtain ⟨e3, e4⟩ := join_split s.length s (Nat.le_refl _)
    refine ⟨?_, e2⟩
    unfold wordT
    rw [if_neg (fun e => e4 (by rw [e1, e]; rfl)), wordS, ← e1, e3]
end Go.Proofs.YtgmfjhmphiiifaaDoor
