/- The reference's Parse: the lines. -/
import Derived.Test.YtehnalbdfnmphaaDoorPQ2
import Derived.Test.YtehnalbdfnmphaaDoorP4
import Derived.Test.YtehnalbdfnmphaaDoorD5
namespace Go.Proofs.YtehnalbdfnmphaaDoor
open Go.Ab
set_option linter.unusedVariables false
set_option linter.unusedSimpArgs false
set_option maxRecDepth 20000
set_option maxHeartbeats 4000000
attribute [local irreducible] wOps wA wSeq wBlk wRound wRoundI wOpsD

theorem crsAll_snoc : ∀ (l : List (List UInt8)) (x : List UInt8), crsAll (l ++ [x]) = match crsAll l, crs x with
    | some ps, some p => some (ps ++ [p])
    | _, _ => none
  | [], x => by
    simp only [List.nil_append, crsAll]
    cases crs x <;> rfl
  | y :: l, x => by
    simp only [List.cons_append, crsAll, crsAll_snoc l x]
    cases crs y <;> cases crsAll l <;> cases crs x <;> rfl
theorem crsAll_none {l : List (List UInt8)} {i j : Nat} (hij : i ≤ j) (h : crsAll (l.take i) = none) : crsAll (l.take j) = none := by
  obtain ⟨k, rfl⟩ : ∃ k, j = i + k := ⟨j - i, by omega⟩
  clear hij
  induction k with
  | zero => exact h
  | succ k ih =>
    rw [← Nat.add_assoc]
    cases hx : l[i + k]? with
    | none =>
      have : l.take (i + k + 1) = l.take (i + k) := by
        rw [List.take_add_one, hx]; simp
      rw [this]; exact ih
    | some x =>
      rw [take_snoc hx, crsAll_snoc, ih]
theorem crsAll_rows : ∀ {l : List (List UInt8)} {ps : List (Int × List Int)}, crsAll l = some ps → Row4 ps ∧ ps.length = l.length
  | [], ps, h => by cases h; exact ⟨Row4.nil, rfl⟩
  | x :: l, ps, h => by
    simp only [crsAll] at h
    split at h
    · rename_i p qs hp hq
      cases h
      obtain ⟨h1, h2⟩ := crsAll_rows hq
      refine ⟨fun q hq => ?_, by simp [h2]⟩
      rcases List.mem_cons.1 hq with rfl | hq
      · exact crs_some (x := q.1) (l := q.2) hp
      · exact h1 q hq
    · cases h
abbrev bx (o : SV) (l : Int) : Blk := .cells [o, .nilS, .int .i64 l] true 0
section
variable {FT : FuncId → Option AFun} {HK : FuncId → Option Hook} {E : Env} {h0 T0 L : Heap} {K : Env → Heap → Prop} {d : Option Nat} {r : List AOp} {x : AO}
/-- The result's cell is written. -/
theorem k_stR {p : AO} {a b c : SV} (ha : evS E p = some (.ptr (h0.length + 0) 0)) (hx : ev E x = some (.agg [a, b, c])) (hw : wOps FT HK r (bindE d none E) (h0 ++ (.cells [a, b, c] true 0 :: (T0 ++ L))) K) :
    wOps FT HK (⟨d, .st 3 p x, none⟩ :: r) E ((h0 ++ (R0 :: T0)) ++ L) K := by
  have e : (h0 ++ (R0 :: T0)) ++ L = h0 ++ (R0 :: (T0 ++ L)) := by simp
  rw [e]
  exact k_stL (k := 0) ha hx rfl rfl rfl hw
end
section
variable (h0 T0 : Heap) (u : SV) (LS : List (List UInt8)) (l : Int)
abbrev HH : Heap := h0 ++ (R0 :: T0)
def I23a (E : Env) (h : Heap) : Prop := ∃ (i : Nat) (T : Heap) (o o2 : SV) (ps : List (Int × List Int)), i + 2 ≤ LS.length ∧ crsAll (LS.take i) = some ps ∧ h = HH h0 T0 ++ (bx o l :: T) ∧
  Own (HH h0 T0 ++ [bx o l]) h o ((sgR ps).map (.int .i64)) ∧ Own (HH h0 T0 ++ [bx o l]) h o2 ((lbR ps).map (.int .i64)) ∧ Go.Ab.Apart o o2 ∧
  E = [(2, some (.sc (.ptr (h0.length + 0) 0))), (4, some (.sc u)), (6, some (.sc (.ptr ((HH h0 T0).length + 0) 0))), (7, some (.sc o2)), (8, some (.sc (.int .i64 (i : Nat))))]
def R23a (ex : Ex) (E : Env) (h : Heap) : Prop := match ex with
  | .rt => crsAll (LS.take (LS.length - 2)) = none ∧ (∃ V, h = h0 ++ (R0 :: V)) ∧ E = [(2, some (.sc (.ptr (h0.length + 0) 0))), (3, some (.sc (.int .i64 3)))]
  | .ex z => z = 0 ∧ ∃ (T : Heap) (o o2 : SV) (ps : List (Int × List Int)), crsAll (LS.take (LS.length - 2)) = some ps ∧ h = HH h0 T0 ++ (bx o l :: T) ∧
    Own (HH h0 T0 ++ [bx o l]) h o ((sgR ps).map (.int .i64)) ∧ Own (HH h0 T0 ++ [bx o l]) h o2 ((lbR ps).map (.int .i64)) ∧ Go.Ab.Apart o o2 ∧ ∃ a b c,
    E = [(2, some (.sc (.ptr (h0.length + 0) 0))), (4, a), (6, some (.sc (.ptr ((HH h0 T0).length + 0) 0))), (7, some (.sc o2)), (8, b), (62, c)]
  | .nm => False
theorem round23a (hu : IsSl (HH h0 T0) u 1 LS.length (LS.map tb)) (hL : LS.length ≤ 100000) (hLl : ∀ w ∈ LS, w.length ≤ 100000) (E : Env) (h : Heap) (hI : I23a h0 T0 u LS l E h) :
    wA FT HKt b23L0 (E.keep [2, 4, 6, 7, 8]) h (wRound (I23a h0 T0 u LS l) (cntV (LS.length - 2) 8) (cntV (LS.length - 2) 8 E h) (R23a h0 T0 LS l)) := by
  obtain ⟨i, T, o, o2, ps, hi, hps, rfl, ho, ho2, hap, rfl⟩ := hI
  obtain ⟨hrow, hpl⟩ := crsAll_rows hps
  have hpl' : ps.length = i := by rw [hpl, List.length_take]; omega
  have hlen : lenS false u = some (LS.length : Int) := hu.len
  have eB : HH h0 T0 ++ (bx o l :: T) = (HH h0 T0 ++ [bx o l]) ++ T := by simp
  have hEx : Ext (HH h0 T0 ++ [bx o l]) (HH h0 T0 ++ (bx o l :: T)) := ⟨T, eB⟩
  by_cases hlt : i < LS.length - 2
  · obtain ⟨w, hw⟩ : ∃ w, LS[i]? = some w := ⟨_, List.getElem?_eq_getElem (by omega)⟩
    have hwl := hLl w (List.mem_of_getElem? hw)
    have hsl : IsSl (HH h0 T0 ++ (bx o l :: T)) u 1 (LS.map tb).length (LS.map tb) := by rw [List.length_map]; exact IsSl.ext hu ⟨_, rfl⟩
    obtain ⟨id, off, cap, eu, hr⟩ := hsl.at (i := i) (x := tb w) (by simp [hw])
    rw [List.length_map] at eu
    subst eu
    have hr' : ∀ {j : Int}, j = (i : Nat) → readN (HH h0 T0 ++ (bx o l :: T)) id (off + j.toNat * 1) 1 = some [tb w] := fun hj => by subst hj; rw [Int.toNat_natCast]; exact hr
    obtain ⟨v1, h1, c1, e1, sg, uL, rfl, hc⟩ := call48 (HH h0 T0 ++ (bx o l :: T)) w hwl
    obtain ⟨T1, rfl⟩ := e1
    have hsnoc : crsAll (LS.take (i + 1)) = match crs w with
        | some p => some (ps ++ [p])
        | none => none := by
      rw [take_snoc hw, crsAll_snoc, hps]
      cases crs w <;> rfl
    cases hcw : crs w with
    | none =>
      rw [hcw] at hc hsnoc
      obtain rfl : sg = 0 := hc
      have hno := crsAll_none (l := LS) (j := LS.length - 2) (by omega) hsnoc
      have k1 : ∃ v h', Cal FT HKt 48 [.sc (tb w)] (HH h0 T0 ++ (bx o l :: T)) v h' ∧ h' = HH h0 T0 ++ (bx o l :: (T ++ T1)) ∧ v = .tup [.sc (.int .i64 0), .sc uL] := ⟨_, _, c1, by simp, rfl⟩
      repeat' (first | refine w_seq ?_ | refine w_seqN ?_ | refine w_seqR ?_ | refine w_blk ?_ | refine w_blkR ?_ | refine w_skip ?_ | refine w_ret ?_ | refine w_ops ?_ | ((refine i_cond ?_); refine w_condT rfl ?_) | ((refine i_nil ?_); first | refine w_end2 rfl rfl ?_ | refine w_end6 rfl rfl rfl rfl rfl rfl ?_ | refine w_end7 rfl rfl rfl rfl rfl rfl rfl ?_ | refine w_end8 rfl rfl rfl rfl rfl rfl rfl rfl ?_) | ((refine i_cons ?_); first | refine k_len rfl hlen ?_ | refine k_idxA rfl rfl (by omega) ?_ | refine k_ld rfl (hr' (by omega)) ?_ | (refine k_call rfl k1 ?_; rintro v h3 ⟨rfl, rfl⟩) | refine k_stR rfl rfl ?_ | refine k_mv rfl ?_ | refine k_sub rfl rfl (by omega) ?_ | refine k_lssT rfl rfl (by omega) ?_ | refine k_eqlT rfl rfl (by omega) ?_ | refine k_ok rfl rfl ?_))
      exact w_roundR ⟨hno, ⟨_, rfl⟩, rfl⟩
    | some p =>
      obtain ⟨x, ls⟩ := p
      rw [hcw] at hc hsnoc
      obtain ⟨rfl, hoL⟩ := hc
      obtain ⟨hx1, hl4, hlr⟩ := crs_some hcw
      have k1 : ∃ v h', Cal FT HKt 48 [.sc (tb w)] (HH h0 T0 ++ (bx o l :: T)) v h' ∧ h' = HH h0 T0 ++ (bx o l :: (T ++ T1)) ∧ v = .tup [.sc (.int .i64 sg), .sc uL] := ⟨_, _, c1, by simp, rfl⟩
      have eA : (HH h0 T0 ++ (bx o l :: T)) ++ T1 = HH h0 T0 ++ (bx o l :: (T ++ T1)) := by simp
      have apL : Go.Ab.Apart o uL := (apart_old hoL ho.sl).symm
      rw [eA] at hoL
      have eE : Ext (HH h0 T0 ++ (bx o l :: T)) (HH h0 T0 ++ (bx o l :: (T ++ T1))) := ⟨T1, eA.symm⟩
      have heA : Ext (HH h0 T0 ++ [bx o l]) (HH h0 T0 ++ (bx o l :: (T ++ T1))) := hEx.trans eE
      have hoA := ho.ext eE
      have hoB := ho2.ext eE
      have hL4 : (lbR ps).length = 4 * ps.length := lbR_len hrow
      have sz1 : ((sgR ps).map (SV.int .i64)).length = i := by rw [List.length_map, sgR_len, hpl']
      have sz2 : ((lbR ps).map (SV.int .i64)).length = 4 * i := by rw [List.length_map, hL4, hpl']
      have sz3 : (ls.map (SV.int .i64)).length = 4 := by rw [List.length_map]; exact hl4
      repeat' (first | refine w_seq ?_ | refine w_seqN ?_ | refine w_blk ?_ | refine w_blkN ?_ | refine w_skip ?_ | refine w_ops ?_ | ((refine i_cond ?_); first | refine w_condT rfl ?_ | refine w_condF rfl ?_) | ((refine i_nil ?_); first | refine w_end5 rfl rfl rfl rfl rfl ?_ | refine w_end6 rfl rfl rfl rfl rfl rfl ?_ | refine w_end7 rfl rfl rfl rfl rfl rfl rfl ?_ | refine w_end8 rfl rfl rfl rfl rfl rfl rfl rfl ?_) | ((refine i_cons ?_); first | refine k_len rfl hlen ?_ | refine k_idxA rfl rfl (by omega) ?_ | refine k_ld rfl (hr' (by omega)) ?_ | (refine k_call rfl k1 ?_; rintro v h3 ⟨rfl, rfl⟩) | refine k_fldA rfl ?_ | refine k_ldL rfl rfl ?_ | (refine k_push heA hoA rfl rfl (by simp only [sz1, bigN]; omega) ?_; intro s1 h2 q1 e2 f2; have q2 := hoB.away f2 hap; have src := (hoL.sl.away f2 apL).src rfl; have ap2 := f2.apart hoB.sl hap) | (refine k_app e2 q2 rfl rfl src (by simp only [sz2, sz3, bigN]; omega) ?_; intro s2 h3 q3 e3 l3 f3; have q4 := q1.away f3 ap2.symm; have ap3 := f3.apart q1.sl ap2.symm; obtain ⟨T3, rfl⟩ := e3; rw [List.append_assoc (HH h0 T0)]) | refine k_stL (k := 0) rfl rfl rfl rfl rfl ?_ | refine k_mv rfl ?_ | refine k_add rfl rfl (by omega) ?_ | refine k_sub rfl rfl (by omega) ?_ | refine k_lssT rfl rfl (by omega) ?_ | refine k_eqlF rfl rfl (by omega) ?_ | refine k_ok rfl rfl ?_))
      refine w_roundN ⟨i + 1, T3, s1, s2, ps ++ [(sg, ls)], by omega, hsnoc, rfl, ?_, ?_, ap3.symm, rfl⟩ (by simp [cntV, Env.get]; omega)
      · have e5 : (sgR (ps ++ [(sg, ls)])).map (SV.int .i64) = (sgR ps).map (.int .i64) ++ [.int .i64 sg] := by simp [sgR]
        rw [e5]
        have := ownRe (B' := HH h0 T0 ++ [bx s1 l]) q4 (by simp)
        rw [List.append_assoc (HH h0 T0)] at this
        exact this
      · have e5 : (lbR (ps ++ [(sg, ls)])).map (SV.int .i64) = (lbR ps).map (.int .i64) ++ ls.map (.int .i64) := by simp [lbR]
        rw [e5]
        have := ownRe (B' := HH h0 T0 ++ [bx s1 l]) q3 (by simp)
        rw [List.append_assoc (HH h0 T0)] at this
        exact this
  · have : i = LS.length - 2 := by omega
    subst this
    repeat' (first | refine w_seq ?_ | refine w_seqN ?_ | refine w_seqX ?_ | refine w_exit ?_ | refine w_ops ?_ | ((refine i_cond ?_); refine w_condF rfl ?_) | ((refine i_nil ?_); refine w_end6 rfl rfl rfl rfl rfl rfl ?_) | ((refine i_cons ?_); first | refine k_len rfl hlen ?_ | refine k_mv rfl ?_ | refine k_sub rfl rfl (by omega) ?_ | refine k_lssF rfl rfl (by omega) ?_))
    exact w_roundX ⟨rfl, T, o, o2, ps, hps, rfl, ho, ho2, hap, _, _, _, rfl⟩
end
end Go.Proofs.YtehnalbdfnmphaaDoor
