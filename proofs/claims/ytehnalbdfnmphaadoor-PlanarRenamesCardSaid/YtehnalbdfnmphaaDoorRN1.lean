/- PlanarRenames: the library's calls; the loops. -/
import Derived.Test.YtehnalbdfnmphaaDoorNP
import Derived.Test.YtehnalbdfnmphaaDoorRR
namespace Go.Proofs.YtehnalbdfnmphaaDoor
open Go.Ab
set_option linter.unusedVariables false
set_option linter.unusedSimpArgs false
set_option maxRecDepth 20000
set_option maxHeartbeats 4000000
attribute [local irreducible] wOps wA wSeq wBlk wRound wRoundI wOpsD

abbrev SB (ws : List (List UInt8)) : Blk := .cells (ws.map tb) true 1
theorem split_call (h : Heap) (s : List UInt8) (c : UInt8) (hl : s.length ≤ 1000000) : ∃ v h', Cal FT HKt 24 [.sc (tb s), .sc (tb [c])] h v h' ∧ h' = h ++ [SB (spl c s)] ∧ v = .sc (.slc (h.length + 0) 0 (spl c s).length (some (spl c s).length)) := by
  have e := lib_spl c s.length s (Nat.le_refl _)
  refine ⟨_, _, Cal.hook (g := splitHook) rfl (by simp only [splitHook, tb, tb_size]; rw [if_pos ⟨by omega, by simp⟩]), ?_, ?_⟩
  · simp only [tb_data, e]
  · simp only [tb_data, e]; rfl
theorem strs_tb : ∀ ls : List (List UInt8), strsOf (ls.map tb) = some ls
  | [] => rfl
  | x :: r => by
    have ih := strs_tb r
    simp only [List.map_cons, tb, strsOf] at ih ⊢
    rw [ih]; rfl
theorem read_SB (h : Heap) (ws : List (List UInt8)) : readN (h ++ [SB ws]) (h.length + 0) 0 ws.length = some (ws.map tb) := by
  rw [rdA]
  simp only [readN, List.getElem?_cons_zero]
  unfold cut
  rw [if_pos (by simp)]
  simp only [List.drop_zero, Option.some.injEq]
  exact List.take_of_length_le (by simp)
theorem join_callR (h : Heap) (ws : List (List UInt8)) (hp : 0 < ws.length) (hl : (Lib.join ws [32]).length ≤ 1000000) (hw : ws.length ≤ 1000000) : ∃ v h', Cal FT HKt 29 [.sc (.slc (h.length + 0) 0 ws.length (some ws.length)), .sc (tb [32])] (h ++ [SB ws]) v h' ∧ h' = h ++ [SB ws] ∧ v = .sc (tb (Lib.join ws [32])) := by
  have e := read_SB h ws
  refine ⟨_, _, Cal.hook (g := joinHook) rfl (by
    simp only [joinHook, tb, tb_data]
    rw [if_neg (by omega), e]
    simp only [Option.bind_some, strs_tb]
    rw [if_pos ⟨by omega, by omega, trivial⟩]), rfl, rfl⟩
theorem atoi_callR (h : Heap) (x : Int) (h0 : 0 ≤ x ∧ x ≤ 65536) : ∃ v h', Cal FT HKt 28 [.sc (tb (Lib.itoa x))] h v h' ∧ h' = h ∧ v = .tup [.sc (.int .i64 x), .sc .nilI] := by
  have hl := itoa_len h0
  have e : Lib.itoa x = Lib.decDigits x.toNat := by
    have := Lib.itoa_nonneg x.toNat
    rwa [Int.toNat_of_nonneg h0.1] at this
  have e2 := atoi_dec x.toNat (by omega)
  rw [← e, Int.toNat_of_nonneg h0.1] at e2
  exact ⟨_, _, Cal.hook (g := atoiHook) rfl (by
    simp only [atoiHook, tb, tb_size, tb_data]
    rw [if_pos (by omega), e2]), rfl, rfl⟩
theorem call73 (h0 : Heap) (a : List UInt8) (ha : a.length ≤ 1000000) : ∃ v h', Cal FT HKt 73 [.sc (tb (a ++ [10])), .sc (tb [10])] h0 v h' ∧ h' = h0 ∧ v = .sc (.bool true) := by
  refine Cal.of (F := a73) rfl rfl rfl ?_
  have hl : (a ++ [10]).length = a.length + 1 := by simp
  have hd : ∀ {j : Int}, j = (a.length : Nat) → decide ((a ++ [10]).drop j.toNat = [10]) = true := fun hj => by subst hj; rw [Int.toNat_natCast, List.drop_left]; rfl
  repeat' (first | refine w_seq ?_ | refine w_seqN ?_ | refine w_ret ?_ | refine w_ops ?_ | ((refine i_nil ?_); first | refine w_end1 rfl ?_ | refine w_end2 rfl rfl ?_) | ((refine i_cons ?_); first | refine k_slen rfl ?_ | refine k_sfrom rfl rfl (by simp only [hl, List.length_singleton]; omega) ?_ | refine k_seql rfl rfl (hd (by simp only [hl, List.length_singleton]; omega)) ?_ | refine k_geqT rfl rfl (by simp only [hl, List.length_singleton]; omega) ?_ | refine k_sub rfl rfl (by simp only [hl, List.length_singleton]; omega) ?_ | refine k_want rfl ?_ | refine k_mv rfl ?_ | refine k_pickT rfl rfl ?_))
  exact ⟨.inr rfl, rfl, rfl⟩
theorem call55 (h0 : Heap) (a : List UInt8) (ha : a.length ≤ 1000000) : ∃ v h', Cal FT HKt 55 [.sc (tb (a ++ [10])), .sc (tb [10])] h0 v h' ∧ h' = h0 ∧ v = .sc (tb a) := by
  refine Cal.of (F := a55) rfl rfl rfl ?_
  have hl : (a ++ [10]).length = a.length + 1 := by simp
  have hd : ∀ {j : Int}, j = (a.length : Nat) → (a ++ [10]).take j.toNat = a := fun hj => by subst hj; rw [Int.toNat_natCast, List.take_left]
  repeat' (first | refine w_seq ?_ | refine w_seqN ?_ | refine w_seqR ?_ | refine w_ret ?_ | refine w_ops ?_ | ((refine i_cond ?_); refine w_condT rfl ?_) | ((refine i_nil ?_); first | refine w_end1 rfl ?_ | refine w_end2 rfl rfl ?_ | refine w_end3 rfl rfl rfl ?_) | ((refine i_cons ?_); first | (refine k_call rfl (call73 h0 a ha) ?_; rintro v h3 ⟨rfl, rfl⟩) | refine k_slen rfl ?_ | refine k_sto rfl rfl (by simp only [hl, List.length_singleton]; omega) ?_ | refine k_sub rfl rfl (by simp only [hl, List.length_singleton]; omega) ?_ | refine k_mv rfl ?_))
  refine ⟨.inr rfl, rfl, ?_⟩
  rw [hd (by simp only [hl, List.length_singleton]; omega)]; rfl
theorem call27 (h0 : Heap) (a : List UInt8) (ha : a.length ≤ 1000000) : ∃ v h', Cal FT HKt 27 [.sc (tb (a ++ [10])), .sc (tb [10])] h0 v h' ∧ h' = h0 ∧ v = .sc (tb a) := by
  refine Cal.of (F := a27) rfl rfl rfl ?_
  repeat' (first | refine w_seq ?_ | refine w_seqN ?_ | refine w_ret ?_ | refine w_ops ?_ | ((refine i_nil ?_); first | refine w_end1 rfl ?_ | refine w_end2 rfl rfl ?_) | ((refine i_cons ?_); first | (refine k_call rfl (call55 h0 a ha) ?_; rintro v h3 ⟨rfl, rfl⟩) | refine k_mv rfl ?_))
  exact ⟨.inr rfl, rfl, rfl⟩
section
variable {FT : FuncId → Option AFun} {HK : FuncId → Option Hook} {E : Env} {h : Heap} {K : Env → Heap → Prop} {d : Option Nat} {r : List AOp} {x : AO}
theorem k_isnilN (hx : evS E x = some .nilI) (hw : wOps FT HK r (bindE d (some (.sc (.bool false))) E) h K) : wOps FT HK (⟨d, .isnil 3 true x, none⟩ :: r) E h K :=
  op_ok rfl rfl (by simp [step1, hx, nilS]) hw
end

/-! ### Words -/
/-- The words of a row, those before i renamed. -/
def wsI (xs lb lb' : List Int) (c i : Nat) : List (List UInt8) := [sgT (xs.getD c 0), Lib.itoa ((if 1 < i then lb' else lb).getD (4 * c + 0) 0), Lib.itoa ((if 2 < i then lb' else lb).getD (4 * c + 1) 0), Lib.itoa ((if 3 < i then lb' else lb).getD (4 * c + 2) 0), Lib.itoa ((if 4 < i then lb' else lb).getD (4 * c + 3) 0)]
theorem wsI_spl {xs lb lb' : List Int} {N c : Nat} (hl : LabR lb N) (hc : 4 * c + 4 ≤ N) : spl 32 (rowK xs lb c 4) = wsI xs lb lb' c 1 := by
  obtain ⟨a1, a2⟩ := hl (4 * c + 0) (by omega)
  obtain ⟨b1, b2⟩ := hl (4 * c + 1) (by omega)
  obtain ⟨c1, c2⟩ := hl (4 * c + 2) (by omega)
  obtain ⟨d1, d2⟩ := hl (4 * c + 3) (by omega)
  have hsg : (32 : UInt8) ∉ sgT (xs.getD c 0) := by unfold sgT; split <;> decide
  rw [rowK_form, spl_app hsg, spl_app (itoa_no (by omega) (by decide)), spl_app (itoa_no (by omega) (by decide)), spl_app (itoa_no (by omega) (by decide)), spl_no (itoa_no (by omega) (by decide))]
  rfl
theorem wsI_join (xs lb lb' : List Int) (c : Nat) : Lib.join (wsI xs lb lb' c 5) [32] = rowK xs lb' c 4 := by
  rw [rowK_form]
  simp [wsI, Lib.join, List.intercalate, List.intersperse]
theorem wsI_at {xs lb lb' : List Int} {c i : Nat} (h1 : 1 ≤ i) (h4 : i ≤ 4) : (wsI xs lb lb' c i)[i]? = some (Lib.itoa (lb.getD (4 * c + (i - 1)) 0)) := by
  have : i = 1 ∨ i = 2 ∨ i = 3 ∨ i = 4 := by omega
  rcases this with rfl | rfl | rfl | rfl <;> rfl
theorem wsI_set {xs lb lb' : List Int} {c i : Nat} (h1 : 1 ≤ i) (h4 : i ≤ 4) : (wsI xs lb lb' c i).set i (Lib.itoa (lb'.getD (4 * c + (i - 1)) 0)) = wsI xs lb lb' c (i + 1) := by
  have : i = 1 ∨ i = 2 ∨ i = 3 ∨ i = 4 := by omega
  rcases this with rfl | rfl | rfl | rfl <;> rfl
theorem spl_rows {xs lb : List Int} (hs : ∀ x ∈ xs, Sgn x) (hl : LabR lb (4 * xs.length)) : ∀ (c : Nat) (R : List UInt8), c ≤ xs.length → spl 10 (txtK xs lb c ++ R) = (List.range c).map (fun i => rowK xs lb i 4) ++ spl 10 R
  | 0, R, _ => rfl
  | c + 1, R, hc => by
    have hx : Sgn (xs.getD c 0) := hs _ (by
      have : xs[c]? = some (xs.getD c 0) := by simp [List.getD, show c < xs.length by omega]
      exact List.mem_of_getElem? this)
    obtain ⟨h1, h2⟩ := row_crs hx hl (c := c) (by omega)
    have e : txtK xs lb (c + 1) ++ R = txtK xs lb c ++ (rowK xs lb c 4 ++ 10 :: R) := by simp [txtK]
    rw [e, spl_rows hs hl c _ (by omega), spl_app h2, List.range_succ, List.map_append, List.append_assoc]
    rfl

def I10w (hh : Heap) (p u : SV) (k m : Int) (out : List UInt8) (xs lb lb' : List Int) (n c : Nat) (E : Env) (h : Heap) : Prop := ∃ i : Nat, 1 ≤ i ∧ i ≤ 5 ∧ h = hh ++ [SB (wsI xs lb lb' c i)] ∧
  E = [(3, some (.sc p)), (9, some (.sc (.int .i64 k))), (10, some (.sc (.int .i64 m))), (11, some (.sc (tb out))), (14, some (.sc (.slc (hh.length + 0) 0 5 (some 5)))), (15, some (.sc (.int .i64 (i : Nat)))), (37, some (.sc u)), (38, some (.sc (.int .i64 (n : Nat)))), (39, some (.sc (.int .i64 (c : Nat))))]
def R10w (hh : Heap) (p u : SV) (k m : Int) (out : List UInt8) (xs lb lb' : List Int) (n c : Nat) (ex : Ex) (E : Env) (h : Heap) : Prop := ex = .ex 2 ∧ h = hh ++ [SB (wsI xs lb lb' c 5)] ∧ ∃ x y,
  E = [(3, some (.sc p)), (9, some (.sc (.int .i64 k))), (10, some (.sc (.int .i64 m))), (11, some (.sc (tb out))), (14, some (.sc (.slc (hh.length + 0) 0 5 (some 5)))), (15, x), (37, some (.sc u)), (38, some (.sc (.int .i64 (n : Nat)))), (39, some (.sc (.int .i64 (c : Nat)))), (52, y)]
theorem round10w (hh : Heap) (p u : SV) (k m : Int) (out : List UInt8) (xs lb lb' : List Int) (n c : Nat) (hR : ∀ j, j < 4 → (0 ≤ lb.getD (4 * c + j) 0 ∧ lb.getD (4 * c + j) 0 ≤ 128) ∧ (0 ≤ k * lb.getD (4 * c + j) 0 ∧ k * lb.getD (4 * c + j) 0 ≤ 8960) ∧ lb'.getD (4 * c + j) 0 = 9999 - k * lb.getD (4 * c + j) 0 - m) (hm : 0 ≤ m ∧ m ≤ 255) (E : Env) (h : Heap) (hI : I10w hh p u k m out xs lb lb' n c E h) :
    wA FT HKt b10L1 (E.keep [3, 9, 10, 11, 14, 15, 37, 38, 39]) h (wRound (I10w hh p u k m out xs lb lb' n c) (cntV 5 15) (cntV 5 15 E h) (R10w hh p u k m out xs lb lb' n c)) := by
  obtain ⟨i, h1, h5, rfl, rfl⟩ := hI
  by_cases hlt : i < 5
  · obtain ⟨⟨x0, x1⟩, ⟨x2, x3⟩, x4⟩ := hR (i - 1) (by omega)
    have hat := wsI_at (xs := xs) (lb := lb) (lb' := lb') (c := c) h1 (by omega)
    have hset := wsI_set (xs := xs) (lb := lb) (lb' := lb') (c := c) h1 (by omega)
    generalize hws : wsI xs lb lb' c i = W at hat hset ⊢
    have hWl : W.length = 5 := by rw [← hws]; rfl
    generalize lb.getD (4 * c + (i - 1)) 0 = x at *
    rw [x4] at hset
    have hrd : ∀ {j : Int}, j = (i : Nat) → readN [SB W] 0 (0 + j.toNat * 1) 1 = some [tb (Lib.itoa x)] := fun hj => by
      subst hj
      rw [Int.toNat_natCast]
      exact rdS rfl (by simp [hat])
    have hwr : ∀ {j : Int} {y : List UInt8}, j = (i : Nat) → writeN [SB W] 0 (0 + j.toNat * 1) [tb y] = some [SB (W.set i y)] := fun {j y} hj => by
      subst hj
      rw [Int.toNat_natCast, wrS rfl (by simp [hWl]; omega)]
      simp [SB, List.map_set]
    have k1 := atoi_callR (hh ++ [SB W]) x (by omega)
    have k2 := itoa_call (h := hh ++ [SB W]) (9999 - k * x - m) (by omega)
    repeat' (first | refine w_seq ?_ | refine w_seqN ?_ | refine w_blk ?_ | refine w_blkN ?_ | refine w_skip ?_ | refine w_ops ?_ | ((refine i_cond ?_); first | refine w_condT rfl ?_ | refine w_condF rfl ?_) | ((refine i_nil ?_); first | refine w_end9 rfl rfl rfl rfl rfl rfl rfl rfl rfl ?_ | refine w_end10 rfl rfl rfl rfl rfl rfl rfl rfl rfl rfl ?_ | refine w_end11 rfl rfl rfl rfl rfl rfl rfl rfl rfl rfl rfl ?_) | ((refine i_cons ?_); first | refine k_idxA rfl rfl (by omega) ?_ | refine k_ldL rfl (hrd (by omega)) ?_ | (refine k_call rfl k1 ?_; rintro v h3 ⟨rfl, rfl⟩) | (refine k_call rfl k2 ?_; rintro v h3 ⟨rfl, rfl⟩) | refine k_isnilN rfl ?_ | refine k_stL rfl rfl rfl rfl (hwr (by omega)) ?_ | refine k_mv rfl ?_ | refine k_add rfl rfl (by omega) ?_ | refine k_sub rfl rfl (by omega) ?_ | refine k_mul rfl rfl (by omega) ?_ | refine k_lssT rfl rfl (by omega) ?_ | refine k_len rfl rfl ?_ | refine k_ok rfl rfl ?_))
    exact w_roundN ⟨i + 1, by omega, by omega, by rw [← hset], rfl⟩ (by simp [cntV, Env.get]; omega)
  · have : i = 5 := by omega
    subst this
    repeat' (first | refine w_seq ?_ | refine w_seqN ?_ | refine w_seqX ?_ | refine w_exit ?_ | refine w_ops ?_ | ((refine i_cond ?_); refine w_condF rfl ?_) | ((refine i_nil ?_); refine w_end10 rfl rfl rfl rfl rfl rfl rfl rfl rfl rfl ?_) | ((refine i_cons ?_); first | refine k_mv rfl ?_ | refine k_lssF rfl rfl (by omega) ?_ | refine k_len rfl rfl ?_))
    exact w_roundX ⟨rfl, rfl, _, _, rfl⟩
end Go.Proofs.YtehnalbdfnmphaaDoor
