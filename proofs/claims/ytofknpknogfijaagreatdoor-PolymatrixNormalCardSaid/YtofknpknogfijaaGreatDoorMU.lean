/- The field's products and powers, and the test of primes: contracts. -/
import Derived.Test.YtofknpknogfijaaGreatDoorMV1
namespace Go.Proofs.YtofknpknogfijaaGreatDoor
open Go.Ab
set_option linter.unusedVariables false
set_option linter.unusedSimpArgs false
set_option maxRecDepth 20000
set_option maxHeartbeats 4000000
attribute [local irreducible] wOps wA wSeq wBlk wRound wRoundI wOpsD wOpsS
set_option linter.unusedSectionVars false
variable [HB]

abbrev fld (p g : Nat) : AV := .agg [.int .u64 (p : Nat), .int .u64 (g : Nat)]
abbrev u (n : Nat) : AV := .sc (.int .u64 (n : Nat))
theorem call98 (h0 : Heap) (p g a b : Nat) (hp : 0 < p ∧ p < 18446744073709551616) (ha : a < 18446744073709551616) (hb : b < 18446744073709551616) : ∃ r h', Cal FT HKt 98 [fld p g, u a, u b] h0 r h' ∧ Ext h0 h' ∧ r = u (a * b % p) := by
  refine Cal.of (F := a98) rfl rfl rfl ?_
  have k103 := fun H => call103 H (a : Int) (b : Int) ⟨by omega, by omega⟩ ⟨by omega, by omega⟩
  rw [← Int.natCast_mul] at k103
  have hlt : a * b < 18446744073709551616 * 18446744073709551616 := Nat.mul_lt_mul'' ha hb
  generalize hm : a * b = m at *
  have k124 := fun H => call124 H (m / 18446744073709551616) (m % 18446744073709551616) p (by omega) (by omega) hp
  rw [show m / 18446744073709551616 * 18446744073709551616 + m % 18446744073709551616 = m by omega] at k124
  rw [show ((m : Nat) : Int) / 18446744073709551616 = ((m / 18446744073709551616 : Nat) : Int) by omega, show ((m : Nat) : Int) % 18446744073709551616 = ((m % 18446744073709551616 : Nat) : Int) by omega] at k103
  repeat' (first | refine w_seq ?_ | refine w_seqN ?_ | refine w_ret ?_ | refine w_ops ?_ | ((refine i_nil ?_); first | refine w_end1 rfl ?_ | refine w_end3 rfl rfl rfl ?_) | ((refine i_cons ?_); first | (refine k_boxC rfl ?_; intro h1 e1 c1) | (refine k_call rfl (k103 _) ?_; rintro v _ ⟨rfl, rfl⟩) | refine k_fldA rfl ?_ | refine k_ldC0 rfl c1 ?_ | (refine k_call rfl (k124 _) ?_; rintro v _ ⟨rfl, rfl⟩) | refine k_mv rfl ?_ | refine k_ok rfl rfl ?_))
  exact ⟨.inr rfl, e1, rfl⟩
/-- Powers: the first n binary digits of the exponent. -/
def powM (p : Nat) : Nat → Nat → Nat → Nat → Nat
  | 0, r, _, _ => r
  | n + 1, r, a, e => if e = 0 then r else frc (if e % 2 = 1 then r * a % p else r) fun r' => frc (a * a % p) fun a' => frc (e / 2) fun e' => powM p n r' a' e'
theorem powM_step (p n r a e : Nat) : powM p (n + 1) r a e = if e = 0 then r else powM p n (if e % 2 = 1 then r * a % p else r) (a * a % p) (e / 2) := by
  simp only [powM, frc_eq]
theorem powM_zero (p n r a : Nat) : powM p n r a 0 = r := by
  cases n
  · rfl
  · rw [powM_step, if_pos rfl]
theorem powM_lt (p : Nat) (hp : 0 < p) : ∀ (n r a e : Nat), r < 18446744073709551616 → p < 18446744073709551616 → powM p n r a e < 18446744073709551616
  | 0, r, a, e, h, _ => h
  | n + 1, r, a, e, h, h2 => by
    rw [powM_step]
    split
    · exact h
    · refine powM_lt p hp n _ _ _ ?_ h2
      split
      · have := Nat.mod_lt (r * a) hp; omega
      · exact h
def I119 (h0 : Heap) (q3 p g X : Nat) (k : Nat) (E : Env) (h : Heap) : Prop := ∃ r a e : Nat, r < 18446744073709551616 ∧ a < 18446744073709551616 ∧ e < 2 ^ k ∧ k ≤ 64 ∧ powM p k r a e = X ∧ Ext h0 h ∧ Cel h q3 (.int .u64 (p : Nat)) (.int .u64 (g : Nat)) ∧
  E.keep [1, 2, 3, 7] = [(1, some (u a)), (2, some (u e)), (3, some (.sc (.ptr q3 0))), (7, some (u r))]
def R119 (h0 : Heap) (X : Nat) (ex : Ex) (E : Env) (h : Heap) : Prop := ex = .ex 0 ∧ Ext h0 h ∧ ∃ a b c d, E = [(1, a), (2, b), (3, c), (7, some (u X)), (9, d)]
theorem round119 (h0 : Heap) (q3 p g X : Nat) (hp : 0 < p ∧ p < 18446744073709551616) (k : Nat) (E : Env) (h : Heap) (hI : I119 h0 q3 p g X k E h) :
    wA FT HKt b119L0 (E.keep [1, 2, 3, 7]) h (wRoundI (I119 h0 q3 p g X) k (R119 h0 X)) := by
  obtain ⟨r, a, e, hr, ha, he, hk, hX, x, c3, hE⟩ := hI
  rw [hE]
  have he64 : e < 18446744073709551616 := Nat.lt_of_lt_of_le he (Nat.pow_le_pow_right (by decide) hk)
  have c3' : Cel h q3 (.int .u64 (p : Nat)) (.int .u64 (g : Nat)) := c3
  by_cases h0' : e = 0
  · subst h0'
    rw [powM_zero] at hX
    subst hX
    repeat' (first | refine w_seq ?_ | refine w_seqN ?_ | refine w_seqX ?_ | refine w_exit ?_ | refine w_ops ?_ | ((refine i_cond ?_); refine w_condF rfl ?_) | ((refine i_nil ?_); refine w_end5 rfl rfl rfl rfl rfl ?_) | ((refine i_cons ?_); first | refine k_mv rfl ?_ | refine k_gtrF rfl rfl (by omega) ?_))
    exact w_roundIX ⟨rfl, x, _, _, _, _, rfl⟩
  cases k with
  | zero => simp at he; omega
  | succ k =>
  rw [powM_step, if_neg h0'] at hX
  have k2 := fun H => call98 H p g a a hp ha ha
  have k1 := fun H => call98 H p g r a hp hr ha
  have hsh : (e : Int) / ((2 ^ 1 : Nat) : Int) = ((e / 2 : Nat) : Int) := by omega
  have hp2 : e / 2 < 2 ^ k := by rw [Nat.pow_succ] at he; omega
  by_cases ho : e % 2 = 1
  · have h1 : (e : Int) % ((2 ^ 1 : Nat) : Int) = 1 := by omega
    rw [if_pos ho] at hX
    repeat' (first | refine w_seq ?_ | refine w_seqN ?_ | refine w_blk ?_ | refine w_blkN ?_ | refine w_skip ?_ | refine w_ops ?_ | ((refine i_cond ?_); refine w_condT rfl ?_) | ((refine i_nil ?_); first | refine w_end4 rfl rfl rfl rfl ?_ | refine w_end5 rfl rfl rfl rfl rfl ?_) | ((refine i_cons ?_); first | refine k_andU (q := 1) rfl rfl (by omega) (by omega) rfl ?_ | refine k_shrU (q := 1) rfl rfl rfl (by omega) ?_ | refine k_ldC rfl c3' ?_ | (have z := e1; refine k_ldC rfl c31 ?_) | (refine k_call rfl (k1 _) ?_; rintro v h1 ⟨e1, rfl⟩; have c31 := c3.ext e1) | (refine k_call rfl (k2 _) ?_; rintro v h2 ⟨e2, rfl⟩) | refine k_mv rfl ?_ | refine k_gtrT rfl rfl (by omega) ?_ | refine k_eqlT rfl rfl (by omega) ?_))
    refine w_roundIN (j := k) (by omega) ⟨r * a % p, a * a % p, e / 2, ?_, ?_, hp2, by omega, hX, (x.trans e1).trans e2, c31.ext e2, ?_⟩
    · have := Nat.mod_lt (r * a) hp.1; omega
    · have := Nat.mod_lt (a * a) hp.1; omega
    · show [(1, some (u (a * a % p))), (2, some (.sc (.int .u64 ((e : Int) / ((2 ^ 1 : Nat) : Int))))), (3, _), (7, _)] = _
      rw [hsh]; rfl
  · have h1 : (e : Int) % ((2 ^ 1 : Nat) : Int) = 0 := by omega
    rw [if_neg ho] at hX
    repeat' (first | refine w_seq ?_ | refine w_seqN ?_ | refine w_blk ?_ | refine w_blkN ?_ | refine w_skip ?_ | refine w_ops ?_ | ((refine i_cond ?_); first | refine w_condT rfl ?_ | refine w_condF rfl ?_) | ((refine i_nil ?_); first | refine w_end4 rfl rfl rfl rfl ?_ | refine w_end5 rfl rfl rfl rfl rfl ?_) | ((refine i_cons ?_); first | refine k_andU (q := 1) rfl rfl (by omega) (by omega) rfl ?_ | refine k_shrU (q := 1) rfl rfl rfl (by omega) ?_ | refine k_ldC rfl c3' ?_ | (refine k_call rfl (k2 _) ?_; rintro v h2 ⟨e2, rfl⟩) | refine k_mv rfl ?_ | refine k_gtrT rfl rfl (by omega) ?_ | refine k_eqlF rfl rfl (by omega) ?_))
    refine w_roundIN (j := k) (by omega) ⟨r, a * a % p, e / 2, hr, ?_, hp2, by omega, hX, x.trans e2, c3.ext e2, ?_⟩
    · have := Nat.mod_lt (a * a) hp.1; omega
    · show [(1, some (u (a * a % p))), (2, some (.sc (.int .u64 ((e : Int) / ((2 ^ 1 : Nat) : Int))))), (3, _), (7, _)] = _
      rw [hsh]; rfl
theorem call119 (h0 : Heap) (p g a e : Nat) (hp : 0 < p ∧ p < 18446744073709551616) (ha : a < 18446744073709551616) (he : e < 18446744073709551616) : ∃ r h', Cal FT HKt 119 [fld p g, u a, u e] h0 r h' ∧ Ext h0 h' ∧ r = u (powM p 64 1 a e) := by
  refine Cal.of (F := a119) rfl rfl rfl ?_
  repeat' (first | refine w_seq ?_ | refine w_seqN ?_ | refine w_blk ?_ | refine w_ops ?_ | ((refine i_nil ?_); first | refine w_end3 rfl rfl rfl ?_ | refine w_end4 rfl rfl rfl rfl ?_) | ((refine i_cons ?_); first | (refine k_boxC rfl ?_; intro h1 e1 c1) | refine k_mv rfl ?_))
  refine w_loopI (I119 h0 h0.length p g (powM p 64 1 a e)) 64 (R119 h0 (powM p 64 1 a e)) ⟨1, a, e, by omega, ha, he, Nat.le_refl _, rfl, e1, c1, rfl⟩ (round119 h0 h0.length p g _ hp) ?_
  rintro ex E' h2 ⟨rfl, x2, _, _, _, _, rfl⟩
  repeat' (first | refine w_seq ?_ | refine w_seqN ?_ | refine w_blkX ?_ | refine w_ret ?_ | refine w_ops ?_ | ((refine i_nil ?_); refine w_end1 rfl ?_) | ((refine i_cons ?_); refine k_mv rfl ?_))
  exact ⟨.inr rfl, x2, rfl⟩
/-! The test of primes. -/
def sqM (p m : Nat) : Nat → Nat → Bool
  | 0, a => a == m
  | n + 1, a => if a = m then true else frc (a * a % p) fun a' => sqM p m n a'
def mrB (n s d b : Nat) : Bool := frc (powM n 64 1 b d) fun a => if a = 1 then true else sqM n (n - 1) (s - 1) a
def basesL : List Nat := [2, 3, 5, 7, 11, 13, 17, 19, 23, 29, 31, 37]
def prM (n : Nat) : Bool := frc (Lib.ctz 64 (n - 1)) fun s => frc ((n - 1) / 2 ^ s) fun d => basesL.all fun b => mrB n s d b
def I118i (h0 : Heap) (q3 n s : Nat) (X : Bool) (b14 b15 : AV) (k : Nat) (E : Env) (h : Heap) : Prop := ∃ a i : Nat, a < 18446744073709551616 ∧ k = s - i ∧ 1 ≤ i ∧ sqM n (n - 1) (s - i) a = X ∧ Ext h0 h ∧ Cel h q3 (.int .u64 (n : Nat)) (.int .u64 0) ∧
  E.keep [0, 3, 4, 7, 8, 14, 15] = [(0, some (u n)), (3, some (.sc (.ptr q3 0))), (4, some (.sc (.int .i64 (s : Nat)))), (7, some (u a)), (8, some (.sc (.int .i64 (i : Nat)))), (14, some b14), (15, some b15)]
def R118i (h0 : Heap) (q3 n s : Nat) (X : Bool) (b14 b15 : AV) (ex : Ex) (E : Env) (h : Heap) : Prop := ex = .ex 2 ∧ Ext h0 h ∧ Cel h q3 (.int .u64 (n : Nat)) (.int .u64 0) ∧ ∃ (a : Nat) (c d : Option AV), a < 18446744073709551616 ∧ (a == n - 1) = X ∧
  E = [(0, some (u n)), (3, some (.sc (.ptr q3 0))), (4, some (.sc (.int .i64 (s : Nat)))), (7, some (u a)), (8, c), (14, some b14), (15, some b15), (35, d)]
theorem round118i (h0 : Heap) (q3 n s : Nat) (X : Bool) (b14 b15 : AV) (hn : 2 < n ∧ n < 18446744073709551616) (hs : s ≤ 64) (k : Nat) (E : Env) (h : Heap) (hI : I118i h0 q3 n s X b14 b15 k E h) :
    wA FT HKt b118L1 (E.keep [0, 3, 4, 7, 8, 14, 15]) h (wRoundI (I118i h0 q3 n s X b14 b15) k (R118i h0 q3 n s X b14 b15)) := by
  obtain ⟨a, i, ha, rfl, hi, hX, x, c3, hE⟩ := hI
  rw [hE]
  have c3' : Cel h q3 (.int .u64 (n : Nat)) (.int .u64 (0 : Nat)) := c3
  by_cases h1 : i < s
  · obtain ⟨k, hk⟩ : ∃ k, s - i = k + 1 := ⟨s - i - 1, by omega⟩
    rw [hk] at hX ⊢
    by_cases h2 : a = n - 1
    · unfold sqM at hX
      rw [if_pos h2] at hX
      repeat' (first | refine w_seq ?_ | refine w_seqN ?_ | refine w_seqX ?_ | refine w_exit ?_ | refine w_ops ?_ | ((refine i_cond ?_); refine w_condF rfl ?_) | ((refine i_nil ?_); refine w_end8 rfl rfl rfl rfl rfl rfl rfl rfl ?_) | ((refine i_cons ?_); first | refine k_subV rfl rfl (by omega) ?_ | refine k_want rfl ?_ | refine k_mv rfl ?_ | refine k_pickT rfl rfl ?_ | refine k_lssT rfl rfl (by omega) ?_ | refine k_neqF rfl rfl (by omega) ?_))
      exact w_roundIX ⟨rfl, x, c3, a, _, _, ha, by rw [← hX]; simp [h2], rfl⟩
    · unfold sqM at hX
      rw [if_neg h2, frc_eq] at hX
      have k98 := fun H => call98 H n 0 a a ⟨by omega, hn.2⟩ ha ha
      repeat' (first | refine w_seq ?_ | refine w_seqN ?_ | refine w_blk ?_ | refine w_blkN ?_ | refine w_skip ?_ | refine w_ops ?_ | ((refine i_cond ?_); refine w_condT rfl ?_) | ((refine i_nil ?_); first | refine w_end7 rfl rfl rfl rfl rfl rfl rfl ?_ | refine w_end8 rfl rfl rfl rfl rfl rfl rfl rfl ?_) | ((refine i_cons ?_); first | refine k_subV rfl rfl (by omega) ?_ | refine k_ldC rfl c3' ?_ | (refine k_call rfl (k98 _) ?_; rintro v h2 ⟨e2, rfl⟩) | refine k_want rfl ?_ | refine k_mv rfl ?_ | refine k_pickT rfl rfl ?_ | refine k_add rfl rfl (by omega) ?_ | refine k_lssT rfl rfl (by omega) ?_ | refine k_neqT rfl rfl (by omega) ?_))
      refine w_roundIN (j := s - (i + 1)) (by omega) ⟨a * a % n, i + 1, ?_, rfl, by omega, ?_, x.trans e2, c3.ext e2, rfl⟩
      · have := Nat.mod_lt (a * a) (show 0 < n by omega); omega
      · rw [← hX, show s - (i + 1) = k by omega]
  · rw [show s - i = 0 by omega] at hX ⊢
    have hX' : (a == n - 1) = X := hX
    repeat' (first | refine w_seq ?_ | refine w_seqN ?_ | refine w_seqX ?_ | refine w_exit ?_ | refine w_ops ?_ | ((refine i_cond ?_); refine w_condF rfl ?_) | ((refine i_nil ?_); refine w_end8 rfl rfl rfl rfl rfl rfl rfl rfl ?_) | ((refine i_cons ?_); first | refine k_skip rfl ?_ | refine k_mv rfl ?_ | refine k_pickF rfl rfl ?_ | refine k_lssF rfl rfl (by omega) ?_))
    exact w_roundIX ⟨rfl, x, c3, a, _, _, ha, hX', rfl⟩
section
variable {FT : FuncId → Option AFun} {HK : FuncId → Option Hook} {E : Env} {h : Heap} {K : Env → Heap → Prop} {d : Option Nat} {r : List AOp} {x y : AO}
theorem k_idxG1 {n j : Nat} {cs : List SV} {v : SV} (hx : ev E x = some (.agg cs)) (hi : evS E y = some (.int .i64 (j : Nat))) (hj : j < n) (hc : cut cs (j * 1) 1 = some [v]) (hw : wOps FT HK r (bindE d (some (.sc v))  E) h K) : wOps FT HK (⟨d, .idxG n 1 false x y, none⟩ :: r) E h K := by
  refine op_ok (v := some (.sc v)) (h' := h) rfl rfl ?_ hw
  simp only [step1, hx, hi]
  rw [if_pos ⟨by omega, by omega⟩, Int.toNat_natCast, hc]; rfl
end
abbrev basesC : List SV := basesL.map fun b => .int .u64 (b : Nat)
def I118 (h0 : Heap) (q3 n s : Nat) (k : Nat) (E : Env) (h : Heap) : Prop := ∃ i : Nat, i ≤ 12 ∧ k = 12 - i ∧ (basesL.take i).all (fun b => mrB n s ((n - 1) / 2 ^ s) b) = true ∧ Ext h0 h ∧ Cel h q3 (.int .u64 (n : Nat)) (.int .u64 0) ∧
  E.keep [0, 3, 4, 14, 15] = [(0, some (u n)), (3, some (.sc (.ptr q3 0))), (4, some (.sc (.int .i64 (s : Nat)))), (14, some (.agg basesC)), (15, some (.sc (.int .i64 (i : Nat))))]
def R118 (h0 : Heap) (n s : Nat) (ex : Ex) (E : Env) (h : Heap) : Prop := Ext h0 h ∧ ((ex = .ex 0 ∧ basesL.all (fun b => mrB n s ((n - 1) / 2 ^ s) b) = true) ∨ (ex = .rt ∧ basesL.all (fun b => mrB n s ((n - 1) / 2 ^ s) b) = false ∧ E = [(2, some (.sc (.bool false)))]))
theorem round118 (h0 : Heap) (q3 n s : Nat) (hn : 2 < n ∧ n < 18446744073709551616) (hs : s ≤ 64) (k : Nat) (E : Env) (h : Heap) (hI : I118 h0 q3 n s k E h) :
    wA FT HKt b118L0 (E.keep [0, 3, 4, 14, 15]) h (wRoundI (I118 h0 q3 n s) k (R118 h0 n s)) := by
  obtain ⟨i, hi, rfl, hall, x, c3, hE⟩ := hI
  rw [hE]
  have c3' : Cel h q3 (.int .u64 (n : Nat)) (.int .u64 (0 : Nat)) := c3
  by_cases h1 : i < 12
  · obtain ⟨b, hb⟩ : ∃ b, basesL[i]? = some b := ⟨_, List.getElem?_eq_getElem (show i < basesL.length from h1)⟩
    have hbl : b < 18446744073709551616 := by
      have : ∀ c ∈ basesL, c < 18446744073709551616 := by decide
      exact this b (List.mem_of_getElem? hb)
    have hcut : cut basesC (i * 1) 1 = some [.int .u64 (b : Nat)] := by
      have : ∀ j, j < 12 → cut basesC (j * 1) 1 = some [.int .u64 ((basesL.getD j 0 : Nat) : Int)] := by decide
      rw [this i h1, List.getD_eq_getElem?_getD, hb]; rfl
    have hd : (n - 1) / 2 ^ s < 18446744073709551616 := Nat.lt_of_le_of_lt (Nat.div_le_self _ _) (by omega)
    have k119 := fun H => call119 H n 0 b ((n - 1) / 2 ^ s) ⟨by omega, hn.2⟩ hbl hd
    have hsd : ((n : Int) - 1) / ((2 ^ s : Nat) : Int) = (((n - 1) / 2 ^ s : Nat) : Int) := by
      rw [show (n : Int) - 1 = ((n - 1 : Nat) : Int) by omega]; rfl
    have tk : basesL.take (i + 1) = basesL.take i ++ [b] := by rw [List.take_add_one, hb]; rfl
    have hmr : mrB n s ((n - 1) / 2 ^ s) b = if powM n 64 1 b ((n - 1) / 2 ^ s) = 1 then true else sqM n (n - 1) (s - 1) (powM n 64 1 b ((n - 1) / 2 ^ s)) := by unfold mrB; rw [frc_eq]
    have hal : powM n 64 1 b ((n - 1) / 2 ^ s) < 18446744073709551616 := powM_lt n (by omega) 64 1 b _ (by omega) hn.2
    generalize hA : powM n 64 1 b ((n - 1) / 2 ^ s) = A at *
    have next : mrB n s ((n - 1) / 2 ^ s) b = true → (basesL.take (i + 1)).all (fun b => mrB n s ((n - 1) / 2 ^ s) b) = true := fun e => by
      rw [tk, List.all_append, hall]; simp [e]
    by_cases hA1 : A = 1
    · rw [if_pos hA1] at hmr
      repeat' (first | refine w_seq ?_ | refine w_seqN ?_ | refine w_seqX ?_ | refine w_blk ?_ | refine w_blkX ?_ | refine w_skip ?_ | refine w_exit ?_ | refine w_ops ?_ | refine w_opsD ?_ | refine d_one ?_ | refine d_nil ?_ | ((refine i_cond ?_); refine w_condT rfl ?_) | ((refine i_nil ?_); first | refine d_same ?_ | refine d_ord ?_ | refine w_end5 rfl rfl rfl rfl rfl ?_ | refine w_end6 rfl rfl rfl rfl rfl rfl ?_ | refine w_end7 rfl rfl rfl rfl rfl rfl rfl ?_) | ((refine i_cons ?_); first | refine k_idxG1 rfl rfl h1 hcut ?_ | refine k_subV rfl rfl (by omega) ?_ | (refine k_shrU (q := s) rfl rfl rfl hs ?_; rw [hsd]) | refine k_ldC rfl c3' ?_ | (refine k_call rfl (k119 _) ?_; rintro v h2 ⟨e2, rfl⟩) | refine k_mv rfl ?_ | refine k_add rfl rfl (by omega) ?_ | refine k_lssT rfl rfl (by omega) ?_ | refine k_eqlT rfl rfl (by omega) ?_))
      exact w_roundIN (j := 12 - (i + 1)) (by omega) ⟨i + 1, by omega, rfl, next hmr, x.trans e2, c3.ext e2, rfl⟩
    · rw [if_neg hA1] at hmr
      repeat' (first | refine w_seq ?_ | refine w_seqN ?_ | refine w_blk ?_ | refine w_skip ?_ | refine w_ops ?_ | refine w_opsD ?_ | refine d_one ?_ | refine d_nil ?_ | ((refine i_cond ?_); first | refine w_condT rfl ?_ | refine w_condF rfl ?_) | ((refine i_nil ?_); first | refine d_same ?_ | refine d_ord ?_ | refine w_end6 rfl rfl rfl rfl rfl rfl ?_ | refine w_end7 rfl rfl rfl rfl rfl rfl rfl ?_) | ((refine i_cons ?_); first | refine k_idxG1 rfl rfl h1 hcut ?_ | refine k_subV rfl rfl (by omega) ?_ | (refine k_shrU (q := s) rfl rfl rfl hs ?_; rw [hsd]) | refine k_ldC rfl c3' ?_ | (refine k_call rfl (k119 _) ?_; rintro v h2 ⟨e2, rfl⟩) | refine k_mv rfl ?_ | refine k_lssT rfl rfl (by omega) ?_ | refine k_eqlF rfl rfl (by omega) ?_))
      refine w_loopI (I118i h0 q3 n s (sqM n (n - 1) (s - 1) A) (.agg basesC) (.sc (.int .i64 (i : Nat)))) (s - 1) (R118i h0 q3 n s (sqM n (n - 1) (s - 1) A) (.agg basesC) (.sc (.int .i64 (i : Nat)))) ⟨A, 1, hal, rfl, Nat.le_refl _, rfl, x.trans e2, c3.ext e2, rfl⟩ (round118i h0 q3 n s _ _ _ hn hs) ?_
      rintro ex E' h3 ⟨rfl, x3, c33, a, _, _, ha, hX, rfl⟩
      by_cases hf : a = n - 1
      · have : sqM n (n - 1) (s - 1) A = true := by rw [← hX]; simp [hf]
        rw [this] at hmr
        repeat' (first | refine w_seq ?_ | refine w_seqN ?_ | refine w_blkN ?_ | refine w_blkX ?_ | refine w_skip ?_ | refine w_ops ?_ | ((refine i_cond ?_); refine w_condF rfl ?_) | ((refine i_nil ?_); first | refine w_end5 rfl rfl rfl rfl rfl ?_ | refine w_end6 rfl rfl rfl rfl rfl rfl ?_) | ((refine i_cons ?_); first | refine k_subV rfl rfl (by omega) ?_ | refine k_mv rfl ?_ | refine k_add rfl rfl (by omega) ?_ | refine k_neqF rfl rfl (by omega) ?_))
        exact w_roundIN (j := 12 - (i + 1)) (by omega) ⟨i + 1, by omega, rfl, next hmr, x3, c33, rfl⟩
      · have : sqM n (n - 1) (s - 1) A = false := by rw [← hX]; simp [hf]
        rw [this] at hmr
        repeat' (first | refine w_seq ?_ | refine w_seqN ?_ | refine w_seqR ?_ | refine w_blkX ?_ | refine w_blkR ?_ | refine w_ret ?_ | refine w_ops ?_ | ((refine i_cond ?_); refine w_condT rfl ?_) | ((refine i_nil ?_); first | refine w_end1 rfl ?_ | refine w_end6 rfl rfl rfl rfl rfl rfl ?_) | ((refine i_cons ?_); first | refine k_subV rfl rfl (by omega) ?_ | refine k_mv rfl ?_ | refine k_neqT rfl rfl (by omega) ?_))
        refine w_roundIR ⟨x3, .inr ⟨rfl, ?_, rfl⟩⟩
        exact List.all_eq_false.2 ⟨b, List.mem_of_getElem? hb, by rw [hmr]; simp⟩
  · have : i = 12 := by omega
    subst this
    repeat' (first | refine w_seq ?_ | refine w_seqN ?_ | refine w_seqX ?_ | refine w_exit ?_ | refine w_ops ?_ | ((refine i_cond ?_); refine w_condF rfl ?_) | ((refine i_nil ?_); refine w_end6 rfl rfl rfl rfl rfl rfl ?_) | ((refine i_cons ?_); refine k_lssF rfl rfl (by omega) ?_))
    exact w_roundIX ⟨x, .inl ⟨rfl, hall⟩⟩
theorem ctz_le (x : Nat) : Lib.ctz 64 x ≤ 64 := by
  have key : ∀ f x, Lib.ctzFrom f x ≤ f := by
    intro f
    induction f with
    | zero => intro x; exact Nat.le_refl _
    | succ f ih => intro x; unfold Lib.ctzFrom; split
                   · omega
                   · have := ih (x / 2); omega
  unfold Lib.ctz
  split
  · omega
  · exact key 64 x
theorem prM_eq (n : Nat) : prM n = basesL.all fun b => mrB n (Lib.ctz 64 (n - 1)) ((n - 1) / 2 ^ Lib.ctz 64 (n - 1)) b := by
  unfold prM; rw [frc_eq, frc_eq]
theorem call118 (h0 : Heap) (n : Nat) (hn : 2 < n ∧ n < 18446744073709551616) : ∃ r h', Cal FT HKt 118 [u n] h0 r h' ∧ Ext h0 h' ∧ r = .sc (.bool (prM n)) := by
  refine Cal.of (F := a118) rfl rfl rfl ?_
  have k138 := fun H => tz_call (h := H) (n - 1) (by omega)
  have hs := ctz_le (n - 1)
  rw [prM_eq]
  generalize hs' : Lib.ctz 64 (n - 1) = s at *
  have e1' : ((n : Int) - 1) = ((n - 1 : Nat) : Int) := by omega
  repeat' (first | refine w_seq ?_ | refine w_seqN ?_ | refine w_blk ?_ | refine w_ops ?_ | ((refine i_nil ?_); first | refine w_end1 rfl ?_ | refine w_end2 rfl rfl ?_ | refine w_end3 rfl rfl rfl ?_ | refine w_end5 rfl rfl rfl rfl rfl ?_) | ((refine i_cons ?_); first | (refine k_newst rfl ?_; intro h1 e1 c1) | refine k_bld rfl rfl ?_ | (refine k_subV rfl rfl (by omega) ?_; rw [e1']) | (refine k_call rfl (k138 _) ?_; rintro v _ ⟨rfl, rfl⟩) | refine k_mv rfl ?_))
  refine w_loopI (I118 h0 h0.length n s) 12 (R118 h0 n s) ⟨0, Nat.zero_le _, rfl, by simp, e1, c1, rfl⟩ (round118 h0 h0.length n s hn hs) ?_
  rintro ex E' h2 ⟨x2, ⟨rfl, hall⟩ | ⟨rfl, hall, rfl⟩⟩
  · rw [hall]
    repeat' (first | refine w_seq ?_ | refine w_seqN ?_ | refine w_blkX ?_ | refine w_ret ?_ | refine w_ops ?_ | ((refine i_nil ?_); refine w_end1 rfl ?_) | ((refine i_cons ?_); refine k_mv rfl ?_))
    exact ⟨.inr rfl, x2, rfl⟩
  · rw [hall]
    repeat' (first | refine w_seqR ?_ | refine w_blkR ?_)
    exact ⟨.inr rfl, x2, rfl⟩
end Go.Proofs.YtofknpknogfijaaGreatDoor
