/- The reference's put, 78: a number is added to sums that are sorted by their exponents. -/
import Derived.Test.YtofknpknogfijaaGreatDoorEX3
import Derived.Test.YtofknpknogfijaaGreatDoorEX4
namespace Go.Proofs.YtofknpknogfijaaGreatDoor
open Go.Ab
set_option linter.unusedVariables false
set_option linter.unusedSimpArgs false
set_option maxRecDepth 20000
set_option maxHeartbeats 4000000
attribute [local irreducible] wOps wA wSeq wBlk wRound wRoundI wOpsD wOpsS
set_option linter.unusedSectionVars false
variable [HB]

section
variable {FT : FuncId → Option AFun} {HK : FuncId → Option Hook} {E : Env} {h : Heap} {K : Env → Heap → Prop} {d : Option Nat} {r : List AOp} {x : AO}
theorem k_bl0 {z : SV} (hw : wOps FT HK r (bindE d (some (.sc (.slc h.length 0 0 (some 0)))) E) (h ++ [.cells [] true 1]) K) : wOps FT HK (⟨d, .bsl 1 [z] 0 [], none⟩ :: r) E h K :=
  op_ok rfl rfl (by simp [step1, evParts, fillA, rep]) hw
theorem k_bsl1 {a z0 : SV} (hx : ev E x = some (.sc a)) (hw : wOps FT HK r (bindE d (some (.sc (.slc h.length 0 1 (some 1)))) E) (h ++ [.cells [a] true 1]) K) : wOps FT HK (⟨d, .bsl 1 [z0] 1 [(0, x)], none⟩ :: r) E h K := by
  refine op_ok (v := some (.sc (.slc h.length 0 1 (some 1)))) (h' := h ++ [.cells [a] true 1]) rfl rfl ?_ hw
  simp [step1, evParts, hx, AV.cells, fillA, rep, splice]
end
def idS : SV → List Nat
  | .slc id _ _ _ => [id]
  | _ => []
theorem idS_of (s : SV) (id : Nat) (h : (match some s with | some (.slc id _ _ _) => some id | _ => none) = some id) : id ∈ idS s := by
  cases s <;> simp [idS] at h ⊢
  exact h.symm
theorem idS_lt {h : Heap} {s : SV} {ps : List P2} (hs : IsD h s ps) : ∀ id ∈ idS s, id < h.length := fun id hid => by
  rcases hs with ⟨rfl, -, -⟩ | ⟨id', off, cap, b, rfl, h1, -⟩
  · simp [idS] at hid
  · simp [idS] at hid
    subst hid
    exact (List.getElem?_eq_some_iff.1 h1).1
theorem framS {h h' : Heap} {s s' : SV} (f : Fram h h' s s') {id : Nat} (hl : id < h.length) (hn : NotAt s id) : h'[id]? = h[id]? ∧ NotAt s' id := by
  have := f id _ (List.getElem?_eq_getElem hl) hn
  exact ⟨by rw [this.1, List.getElem?_eq_getElem hl], this.2⟩
theorem sliceS_ext {h h' : Heap} (he : Ext h h') {e : ESz} {l u : Nat} {s s' : SV} (hs : sliceS h e l u s = some s') : sliceS h' e l u s = some s' := by
  cases s
  case nilS => exact hs
  case slc =>
    simp only [sliceS] at hs ⊢
    split at hs
    · rename_i b hg
      rw [he.get _ _ hg]
      exact hs
    · cases hs
  all_goals exact hs
section
variable {FT : FuncId → Option AFun} {HK : FuncId → Option Hook} {E : Env} {h hb : Heap} {K : Env → Heap → Prop} {d : Option Nat} {r : List AOp} {x lo hi : AO}
theorem k_bl0D {z0 z1 : SV} (hw : wOps FT HK r (bindE d (some (.sc (.slc h.length 0 0 (some 0)))) E) (h ++ [.cells [] true 2]) K) : wOps FT HK (⟨d, .bsl 2 [z0, z1] 0 [], none⟩ :: r) E h K :=
  op_ok rfl rfl (by simp [step1, evParts, fillA, rep]) hw
theorem k_bsl2 {a b z0 z1 : SV} (hx : ev E x = some (.agg [a, b])) (hw : wOps FT HK r (bindE d (some (.sc (.slc h.length 0 1 (some 1)))) E) (h ++ [.cells [a, b] true 2]) K) : wOps FT HK (⟨d, .bsl 2 [z0, z1] 1 [(0, x)], none⟩ :: r) E h K := by
  refine op_ok (v := some (.sc (.slc h.length 0 1 (some 1)))) (h' := h ++ [.cells [a, b] true 2]) rfl rfl ?_ hw
  simp [step1, evParts, hx, AV.cells, fillA, rep, splice, ez2]
theorem k_prsToE {s : SV} {ps : List P2} {u : Int} (he : Ext hb h) (hs : IsD hb s ps) (hx : evS E x = some s) (hh : evS E hi = some (.int .i64 u)) (hu : 0 ≤ u ∧ u ≤ ps.length)
    (hw : ∀ s', IsD hb s' (ps.take u.toNat) → wOps FT HK r (bindE d (some (.sc s')) E) h K) : wOps FT HK (⟨d, .sl 2 x none (some hi), none⟩ :: r) E h K := by
  obtain ⟨s', h1, h2⟩ := prsTo (u := u.toNat) hs (by omega)
  refine op_ok (v := some (.sc s')) (h' := h) rfl rfl ?_ (hw s' h2)
  simp [step1, hx, hh, hs.len, bnd, sliceS_ext he h1, hu.1]
theorem k_prsFromE {s : SV} {ps : List P2} {l : Int} (he : Ext hb h) (hs : IsD hb s ps) (hx : evS E x = some s) (hh : evS E lo = some (.int .i64 l)) (hl : 0 ≤ l ∧ l ≤ ps.length)
    (hw : ∀ s', IsD hb s' (ps.drop l.toNat) → wOps FT HK r (bindE d (some (.sc s')) E) h K) : wOps FT HK (⟨d, .sl 2 x (some lo) none, none⟩ :: r) E h K := by
  obtain ⟨s', h1, h2⟩ := prsFrom (l := l.toNat) hs (by omega)
  refine op_ok (v := some (.sc s')) (h' := h) rfl rfl ?_ (hw s' h2)
  simp [step1, hx, hh, hs.len, bnd, sliceS_ext he h1, hl.1]
end
theorem set_same {a : Int} : ∀ {l : List Int} {i : Nat}, l[i]? = some a → l.set i a = l
  | [], i, h => by simp at h
  | x :: r, 0, h => by simp at h; simp [h]
  | x :: r, i + 1, h => by simp at h; simp [set_same h]
/-- A sum, wide. -/
def wp (u : Tm) : P2 := (nh u.2, nl u.2)
def putM (e v : Int) : List Tm → List Tm
  | [] => [(e, v)]
  | u :: r => if u.1 < e then u :: putM e v r else if u.1 = e then (e, u.2 + v) :: r else (e, v) :: u :: r
theorem putM_set {e v : Int} : ∀ {M : List Tm} {i : Nat} {w : Int}, (∀ u ∈ M.take i, u.1 < e) → M[i]? = some (e, w) → putM e v M = M.set i (e, w + v)
  | [], i, w, h, hi => by simp at hi
  | u :: r, 0, w, h, hi => by
    simp at hi
    subst hi
    simp [putM]
  | u :: r, i + 1, w, h, hi => by
    have h0 : u.1 < e := h u (by simp)
    have ih := putM_set (v := v) (M := r) (i := i) (w := w) (fun u' hu => h u' (by simp [hu])) (by simpa using hi)
    simp only [putM, if_pos h0, ih, List.set_cons_succ]
theorem putM_ins {e v : Int} : ∀ {M : List Tm} {i : Nat}, (∀ u ∈ M.take i, u.1 < e) → i ≤ M.length → (∀ u, M[i]? = some u → e < u.1) → putM e v M = M.take i ++ (e, v) :: M.drop i
  | [], i, h, hl, hi => by simp [putM]
  | u :: r, 0, h, hl, hi => by
    have := hi u (by simp)
    simp only [putM, if_neg (show ¬ u.1 < e by omega), if_neg (show ¬ u.1 = e by omega), List.take_zero, List.drop_zero, List.nil_append]
  | u :: r, i + 1, h, hl, hi => by
    have h0 : u.1 < e := h u (by simp)
    have ih := putM_ins (v := v) (M := r) (i := i) (fun u' hu => h u' (by simp [hu])) (by simpa using hl) (fun u' hu => hi u' (by simpa using hu))
    simp only [putM, if_pos h0, ih, List.take_succ_cons, List.drop_succ_cons, List.cons_append]
def I80 (h1 : Heap) (q7 : Nat) (sx st : SV) (e : Int) (M : List Tm) (k : Nat) (E : Env) (h : Heap) : Prop := ∃ i : Nat, i ≤ M.length ∧ k = M.length - i ∧ (∀ u ∈ M.take i, u.1 < e) ∧ h = h1 ∧
  E.keep [0, 1, 2, 7, 10] = [(0, some (.sc sx)), (1, some (.sc st)), (2, some (.sc (.int .i64 e))), (7, some (.sc (.ptr q7 0))), (10, some (.sc (.int .i64 (i : Nat))))]
def R80 (h1 : Heap) (q7 : Nat) (sx st : SV) (e : Int) (M : List Tm) (ex : Ex) (E : Env) (h : Heap) : Prop := ex = .ex 0 ∧ ∃ i : Nat, ∃ d, i ≤ M.length ∧ (∀ u ∈ M.take i, u.1 < e) ∧ (∀ u, M[i]? = some u → e ≤ u.1) ∧ h = h1 ∧
  E = [(0, some (.sc sx)), (1, some (.sc st)), (2, some (.sc (.int .i64 e))), (7, some (.sc (.ptr q7 0))), (10, some (.sc (.int .i64 (i : Nat)))), (25, d)]
theorem round80 (h1 : Heap) (q7 : Nat) (sx st : SV) (e : Int) (M : List Tm) (hx : IsInts h1 sx (M.map (·.1))) (hn : M.length ≤ 1000000) (k : Nat) (E : Env) (h : Heap) (hI : I80 h1 q7 sx st e M k E h) :
    wA FT HKt b80L0 (E.keep [0, 1, 2, 7, 10]) h (wRoundI (I80 h1 q7 sx st e M) k (R80 h1 q7 sx st e M)) := by
  obtain ⟨i, hi, rfl, hlt, rfl, hE⟩ := hI
  rw [hE]
  have ls := IsSl.len hx
  rw [List.length_map] at ls
  by_cases h1 : i < M.length
  · obtain ⟨u, hu⟩ : ∃ u, M[i]? = some u := ⟨_, List.getElem?_eq_getElem h1⟩
    obtain ⟨id, off, cap, rfl, rd⟩ := IsInts.at hx (i := i) (x := u.1) (by rw [List.getElem?_map, hu]; rfl)
    rw [List.length_map] at ls ⊢
    by_cases h2 : u.1 < e
    · repeat' (first | refine w_seq ?_ | refine w_seqN ?_ | refine w_blk ?_ | refine w_blkN ?_ | refine w_skip ?_ | refine w_ops ?_ | ((refine i_cond ?_); refine w_condT rfl ?_) | ((refine i_nil ?_); first | refine w_end5 rfl rfl rfl rfl rfl ?_ | refine w_end6 rfl rfl rfl rfl rfl rfl ?_) | ((refine i_cons ?_); first | refine k_len rfl ls ?_ | refine k_idxA (esz := 1) rfl rfl (by omega) ?_ | refine k_ld rfl rd ?_ | refine k_want rfl ?_ | refine k_mv rfl ?_ | refine k_pickT rfl rfl ?_ | refine k_add rfl rfl (by omega) ?_ | refine k_lssT rfl rfl (by omega) ?_))
      refine w_roundIN (j := M.length - (i + 1)) (by omega) ⟨i + 1, by omega, rfl, fun x hx => ?_, rfl, rfl⟩
      rw [List.take_add_one, hu] at hx
      rcases List.mem_append.1 hx with hx | hx
      · exact hlt x hx
      · simp at hx; subst hx; exact h2
    · repeat' (first | refine w_seq ?_ | refine w_seqN ?_ | refine w_seqX ?_ | refine w_exit ?_ | refine w_ops ?_ | ((refine i_cond ?_); refine w_condF rfl ?_) | ((refine i_nil ?_); refine w_end6 rfl rfl rfl rfl rfl rfl ?_) | ((refine i_cons ?_); first | refine k_len rfl ls ?_ | refine k_idxA (esz := 1) rfl rfl (by omega) ?_ | refine k_ld rfl rd ?_ | refine k_want rfl ?_ | refine k_mv rfl ?_ | refine k_pickT rfl rfl ?_ | refine k_lssT rfl rfl (by omega) ?_ | refine k_lssF rfl rfl (by omega) ?_))
      exact w_roundIX ⟨rfl, i, _, hi, hlt, (fun x hx => by rw [hu] at hx; cases hx; omega), rfl, rfl⟩
  · repeat' (first | refine w_seq ?_ | refine w_seqN ?_ | refine w_seqX ?_ | refine w_exit ?_ | refine w_ops ?_ | ((refine i_cond ?_); refine w_condF rfl ?_) | ((refine i_nil ?_); refine w_end6 rfl rfl rfl rfl rfl rfl ?_) | ((refine i_cons ?_); first | refine k_len rfl ls ?_ | refine k_skip rfl ?_ | refine k_mv rfl ?_ | refine k_pickF rfl rfl ?_ | refine k_lssF rfl rfl (by omega) ?_))
    exact w_roundIX ⟨rfl, i, _, hi, hlt, (fun x hx => by rw [List.getElem?_eq_none (by omega)] at hx; cases hx), rfl, rfl⟩
theorem call80 (h0 : Heap) (sx st : SV) (e v : Int) (M : List Tm) (hx : IsInts h0 sx (M.map (·.1))) (ht : IsD h0 st (M.map wp)) (hn : M.length ≤ 1000000) (hv : v.natAbs ≤ 2 ^ 104) (hM : ∀ u ∈ M, u.2.natAbs ≤ 2 ^ 104) :
    ∃ r h', Cal FT HKt 80 [.sc sx, .sc st, .sc (.int .i64 e), nf v] h0 r h' ∧ Ext h0 h' ∧ ∃ s1 s2, r = .tup [.sc s1, .sc s2] ∧ IsInts h' s1 ((putM e v M).map (·.1)) ∧ IsD h' s2 ((putM e v M).map wp) := by
  refine Cal.of (F := a80) rfl rfl rfl ?_
  repeat' (first | refine w_seq ?_ | refine w_seqN ?_ | refine w_blk ?_ | refine w_ops ?_ | ((refine i_nil ?_); first | refine w_end4 rfl rfl rfl rfl ?_ | refine w_end5 rfl rfl rfl rfl rfl ?_) | ((refine i_cons ?_); first | (refine k_boxC rfl ?_; intro h1 e1 c1) | refine k_mv rfl ?_))
  refine w_loopI (I80 h1 h0.length sx st e M) M.length (R80 h1 h0.length sx st e M) ⟨0, Nat.zero_le _, rfl, by simp, rfl, rfl⟩ (round80 h1 h0.length sx st e M (IsSl.ext hx e1) hn) ?_
  rintro ex E' h1 ⟨rfl, i, d, hi, hlt, hge, rfl, rfl⟩
  have hx1 : IsInts h1 sx (M.map (·.1)) := IsSl.ext hx e1
  have ht1 : IsD h1 st (M.map wp) := ht.ext e1
  have ls := IsSl.len hx1
  rw [List.length_map] at ls
  have lt := ht1.len
  rw [List.length_map] at lt
  by_cases heq : ∃ w, M[i]? = some (e, w)
  · obtain ⟨w, hw⟩ := heq
    have hiM : i < M.length := (List.getElem?_eq_some_iff.1 hw).1
    have hwm : (e, w) ∈ M := List.mem_of_getElem? hw
    have hp : (M.map wp)[i]? = some (wp (e, w)) := by rw [List.getElem?_map, hw]; rfl
    have hpm := putM_set (v := v) hlt hw
    have k94 := fun H => call111n H w v (by have := hM _ hwm; simp only at this; omega) (by omega)
    obtain ⟨id, off, cap, rfl, rd⟩ := IsInts.at hx1 (i := i) (x := e) (by rw [List.getElem?_map, hw]; rfl)
    rw [List.length_map] at ls hx1 ⊢
    repeat' (first | refine w_seq ?_ | refine w_seqN ?_ | refine w_seqR ?_ | refine w_blkX ?_ | refine w_ret ?_ | refine w_ops ?_ | refine w_opsD ?_ | refine d_one ?_ | refine d_nil ?_ | ((refine i_cond ?_); refine w_condT rfl ?_) | ((refine i_nil ?_); first | refine d_same ?_ | refine d_ord ?_ | refine w_end2 rfl rfl ?_ | refine w_end4 rfl rfl rfl rfl ?_ | refine w_end6 rfl rfl rfl rfl rfl rfl ?_) | ((refine i_cons ?_); first | refine k_len rfl ls ?_ | refine k_idxA (esz := 1) rfl rfl (by omega) ?_ | refine k_ld rfl rd ?_ | (refine k_lit0D ?_; intro h2 e2 o2; have c2 := c1.ext e2; have t2 := ht1.ext e2) | (refine k_appDs e2 o2 rfl rfl t2 (by simp only [bigN, List.length_map, List.length_nil]; omega) ?_; intro s3 h3 o3 e3 f3 l3; have c3 := c2.fram f3 (o2.cel c2); rw [List.nil_append] at o3; obtain ⟨id3, cap3, rfl, rd3⟩ := o3.rd hp; rw [List.length_map]) | refine k_idxA (esz := 2) rfl rfl (by omega) ?_ | refine k_ldD rfl rd3 ?_ | refine k_ldC rfl c3 ?_ | (refine k_call rfl (k94 h3) ?_; rintro r h4 ⟨e4, rfl⟩; have o4 := o3.ext e4; obtain ⟨id5, cap5, h5, q5, wr5, o5, e5, f5, l5⟩ := o4.wr (e3.trans e4) (i := i) (by rw [List.length_map]; exact hiM) (nh (w + v)) (nl (w + v)); cases q5) | refine k_stD rfl rfl wr5 ?_ | refine k_want rfl ?_ | refine k_mv rfl ?_ | refine k_pickT rfl rfl ?_ | refine k_lssT rfl rfl (by omega) ?_ | refine k_eqlT rfl rfl (by omega) ?_))
    refine ⟨.inr rfl, e1.trans e5, _, _, rfl, ?_, ?_⟩
    · rw [hpm, List.map_set, set_same (by rw [List.getElem?_map, hw]; rfl)]
      have := IsSl.ext hx1 e5
      unfold IsInts
      rwa [List.length_map] at this ⊢
    · rw [hpm, List.map_set]
      have := o5.is
      rw [List.length_map] at this
      exact this
  · have hgt : ∀ u, M[i]? = some u → e < u.1 := fun u hu => by
      have h1 := hge u hu
      by_cases h2 : u.1 = e
      · exact absurd ⟨u.2, by rw [hu, ← h2]⟩ heq
      · omega
    have hpm := putM_ins (v := v) hlt hi hgt
    obtain ⟨s57, q57, p57⟩ := intsTo (u := i) hx1 (by rw [List.length_map]; exact hi)
    obtain ⟨s64, q64, p64⟩ := intsFrom (l := i) hx1 (by rw [List.length_map]; exact hi)
    rw [List.length_map] at q64
    have nol : ∀ {S : List Nat} {ord : Bool} {k : AK} (E : Env) (id : Nat), ldX E ord k = some id → ldX E ord k = none → id ∈ S := fun E id h1 h2 => by rw [h2] at h1; cases h1
    by_cases hiM : i < M.length
    case' pos =>
      obtain ⟨u, hu⟩ : ∃ u, M[i]? = some u := ⟨_, List.getElem?_eq_getElem hiM⟩
      have hne : u.1 ≠ e := by have := hgt u hu; omega
      obtain ⟨id, off, cap, rfl, rd⟩ := IsInts.at hx1 (i := i) (x := u.1) (by rw [List.getElem?_map, hu]; rfl)
      rw [List.length_map] at ls hx1 q57 q64 ⊢
      repeat' (first | refine w_seq ?_ | refine w_seqN ?_ | refine w_blkX ?_ | refine w_skip ?_ | refine w_ops ?_ | ((refine i_cond ?_); refine w_condF rfl ?_) | ((refine i_nil ?_); refine w_end6 rfl rfl rfl rfl rfl rfl ?_) | ((refine i_cons ?_); first | refine k_len rfl ls ?_ | refine k_idxA (esz := 1) rfl rfl (by omega) ?_ | refine k_ld rfl rd ?_ | refine k_want rfl ?_ | refine k_mv rfl ?_ | refine k_pickT rfl rfl ?_ | refine k_lssT rfl rfl (by omega) ?_ | refine k_eqlF rfl rfl (by omega) ?_))
      generalize SV.slc id off M.length cap = sx at *
    case' neg =>
      repeat' (first | refine w_seq ?_ | refine w_seqN ?_ | refine w_blkX ?_ | refine w_skip ?_ | refine w_ops ?_ | ((refine i_cond ?_); refine w_condF rfl ?_) | ((refine i_nil ?_); refine w_end6 rfl rfl rfl rfl rfl rfl ?_) | ((refine i_cons ?_); first | refine k_len rfl ls ?_ | refine k_skip rfl ?_ | refine k_mv rfl ?_ | refine k_pickF rfl rfl ?_ | refine k_lssF rfl rfl (by omega) ?_))
    all_goals
      refine w_opsSA [] [h1.length + 1] ?_
      refine s_one (fun id h => nol _ id h rfl) (k_bl0 (s_grow ⟨_, rfl⟩ (by simp) ?_))
      refine s_one (fun id h => nol _ id h rfl) (k_mv rfl (s_same ?_))
      refine s_one (fun id h => nol _ id h rfl) (k_mv rfl (s_same ?_))
      refine s_one (fun id h => nol _ id h rfl) (k_to rfl ls rfl (by omega) q57 (s_same ?_))
      refine s_one (fun id h => nol _ id h rfl) (k_mv rfl (s_same ?_))
      refine s_one (fun id h => nol _ id h rfl) (k_bsl1 rfl (s_al ⟨_, rfl⟩ (by simp) (fun id i1 i2 => by simp at i1 i2 ⊢; omega) ?_))
      have lB1 : (h1 ++ [Blk.cells [] true 1]).length = h1.length + 1 := by simp
      rw [lB1]
      generalize hBe : h1 ++ [Blk.cells [] true 1] ++ [Blk.cells [SV.int .i64 e] true 1] = hB
      have eB : Ext h1 hB := by rw [← hBe, List.append_assoc]; exact ⟨_, rfl⟩
      have oB : Own h1 hB (.slc h1.length 0 0 (some 0)) [] := by rw [← hBe]; exact (Own.lit0 h1).ext ⟨_, rfl⟩
      have gB : hB[h1.length + 1]? = some (Blk.cells [SV.int .i64 e] true 1) := by rw [← hBe, List.getElem?_append_right (by simp)]; simp
      refine s_one (fun id h => nol _ id h rfl) (k_mv rfl (s_same ?_))
      refine s_one (fun id h => nol _ id h rfl) (k_mv rfl (s_same ?_))
      refine s_one (fun id h => nol _ id h rfl) (k_from rfl ls rfl (by omega) q64 (s_same ?_))
      refine s_one (fun id h => nol _ id h rfl) (k_app0 eB oB rfl rfl (IsInts.src (IsSl.ext p57 eB)) (by simp only [bigN, List.length_map, List.length_take]; omega) ?_)
      intro s58 h3 o3 e3 f3
      have g3 := e3.get _ _ gB
      have e13 := eB.trans e3
      refine s_ord (fun id hid => nomatch hid) ?_ (fun id hid _ => by rw [List.mem_singleton.1 hid, gB, g3])
      have sr2 : srcCells h3 1 (.slc (h1.length + 1) 0 1 (some 1)) = some ([SV.int .i64 e].length, [SV.int .i64 e]) := by simp [srcCells, readN, g3, cut]
      refine s_one (fun id h => nol _ id h rfl) (k_app e13 o3 rfl rfl sr2 (by simp only [bigN, List.length_map, List.length_take, List.length_cons, List.length_nil]; omega) ?_)
      intro s61 h4 o4 e4 l4 f4
      refine s_free rfl ?_
      refine s_one (fun id h => nol _ id h rfl) (k_app e4 o4 rfl rfl (IsInts.src (IsSl.ext p64 e4)) (by simp only [bigN, List.length_append, List.length_map, List.length_take, List.length_drop, List.length_cons, List.length_nil]; omega) ?_)
      intro s65 h5 o5 e5 l5 f5
      refine s_free rfl ?_
      refine s_one (fun id h => nol _ id h rfl) (k_mv rfl (s_same ?_))
      refine s_nil ?_
      repeat' (first | refine w_seq ?_ | refine w_seqN ?_ | ((refine i_nil ?_); refine w_end4 rfl rfl rfl rfl ?_))
      have c5 := c1.ext e5
      have t5 := ht1.ext e5
      have hS : ∀ id ∈ h0.length :: idS st, id < h5.length := fun id hid => by
        rcases List.mem_cons.1 hid with rfl | hid
        · exact c5.lt
        · exact idS_lt t5 id hid
      have noS : ∀ id ∈ h0.length :: idS st, ∀ n c, NotAt (.slc h5.length 0 n c) id := fun id hid n c o n' c' e => by
        have := hS id hid
        cases e; omega
      refine w_opsSA (h0.length :: idS st) [h5.length + 1] ?_
      refine s_one (fun id h => nol _ id h rfl) (k_bl0D (s_grow ⟨_, rfl⟩ hS ?_))
      have eA : Ext h5 (h5 ++ [Blk.cells [] true 2]) := ⟨_, rfl⟩
      refine s_one (fun id h => nol _ id h rfl) (k_mv rfl (s_same ?_))
      refine s_one (fun id h => nol _ id h rfl) (k_mv rfl (s_same ?_))
      refine s_one (fun id h => List.mem_cons_of_mem _ (idS_of st id h)) (k_prsToE eA t5 rfl rfl (by rw [List.length_map]; omega) ?_)
      intro s69 d69
      refine s_same ?_
      refine s_one (fun id h => by cases h; exact List.mem_cons_self ..) (k_ldC rfl (c5.ext eA) (s_same ?_))
      refine s_one (fun id h => nol _ id h rfl) (k_bsl2 rfl (s_al ⟨_, rfl⟩ (fun id hid => by have := hS id hid; simp; omega) (fun id i1 i2 => by simp at i1 i2 ⊢; omega) ?_))
      have lC1 : (h5 ++ [Blk.cells [] true 2]).length = h5.length + 1 := by simp
      rw [lC1]
      generalize hCe : h5 ++ [Blk.cells [] true 2] ++ [Blk.cells [nh v, nl v] true 2] = hC
      have eC : Ext h5 hC := by rw [← hCe, List.append_assoc]; exact ⟨_, rfl⟩
      have lC : hC.length = h5.length + 2 := by rw [← hCe]; simp
      have oC : OwnD h5 hC (.slc h5.length 0 0 (some 0)) [] := by
        rw [← hCe]
        exact OwnD.ext (.inr ⟨h5.length, some 0, [], rfl, Nat.le_refl _, by simp, by simp [prs], by simp [RoomD]⟩) ⟨_, rfl⟩
      have gC : hC[h5.length + 1]? = some (Blk.cells [nh v, nl v] true 2) := by rw [← hCe, List.getElem?_append_right (by simp)]; simp
      have dC : IsD hC (.slc (h5.length + 1) 0 1 (some 1)) [(nh v, nl v)] := .inr ⟨_, _, _, _, rfl, gC, rfl, fun h => by simp at h, fun _ => ⟨_, _, rfl, by simp [cut, prs, ez2]⟩⟩
      refine s_one (fun id h => nol _ id h rfl) (k_mv rfl (s_same ?_))
      refine s_one (fun id h => nol _ id h rfl) (k_mv rfl (s_same ?_))
      refine s_one (fun id h => List.mem_cons_of_mem _ (idS_of st id h)) (k_prsFromE eC t5 rfl rfl (by rw [List.length_map]; omega) ?_)
      intro s76 d76
      refine s_same ?_
      refine s_one (fun id h => nol _ id h rfl) (k_appDs eC oC rfl rfl (d69.ext eC) (by simp only [bigN, List.length_map, List.length_take, List.length_nil]; omega) ?_)
      intro s70 h6 o6 e6 f6 l6
      have nA : NotAt (.slc h5.length 0 0 (some 0)) (h5.length + 1) := fun o n c e => by simp only [SV.slc.injEq] at e; omega
      have k6 := fun id (hid : id ∈ h0.length :: idS st) => framS f6 (show id < hC.length by have := hS id hid; omega) (noS id hid _ _)
      have k6A := framS f6 (show h5.length + 1 < hC.length by omega) nA
      refine s_ord (fun id hid => (k6 id hid).1) ?_ (fun id hid _ => by rw [List.mem_singleton.1 hid]; exact k6A.1)
      have g6 : h6[h5.length + 1]? = some (Blk.cells [nh v, nl v] true 2) := by rw [k6A.1, gC]
      have d6 : IsD h6 (.slc (h5.length + 1) 0 1 (some 1)) [(nh v, nl v)] := .inr ⟨_, _, _, _, rfl, g6, rfl, fun h => by simp at h, fun _ => ⟨_, _, rfl, by simp [cut, prs, ez2]⟩⟩
      refine s_one (fun id h => nol _ id h rfl) (k_appDs e6 o6 rfl rfl d6 (by simp only [bigN, List.length_append, List.length_map, List.length_take, List.length_cons, List.length_nil]; omega) ?_)
      intro s73 h7 o7 e7 f7 l7
      refine s_ord (fun id hid => (framS f7 (by have := hS id hid; omega) (k6 id hid).2).1) ?_ (fun id hid _ => by rw [List.mem_singleton.1 hid]; exact (framS f7 (by omega) k6A.2).1)
      refine s_one (fun id h => nol _ id h rfl) (k_appDs e7 o7 rfl rfl (d76.ext e7) (by simp only [bigN, List.length_append, List.length_map, List.length_take, List.length_drop, List.length_cons, List.length_nil]; omega) ?_)
      intro s77 h8 o8 e8 f8 l8
      refine s_free rfl ?_
      refine s_one (fun id h => nol _ id h rfl) (k_mv rfl (s_same ?_))
      refine s_nil ?_
      repeat' (first | refine w_seq ?_ | refine w_seqN ?_ | refine w_ret ?_ | refine w_ops ?_ | ((refine i_nil ?_); refine w_end2 rfl rfl ?_) | ((refine i_cons ?_); refine k_mv rfl ?_))
      refine ⟨.inr rfl, e1.trans (e5.trans e8), _, _, rfl, ?_, ?_⟩
      · have := IsSl.ext o5.sl e8
        rw [hpm]
        unfold IsInts
        simpa [List.map_take, List.map_drop] using this
      · have := o8.is
        rw [hpm]
        simpa [List.map_take, List.map_drop, wp] using this
end Go.Proofs.YtofknpknogfijaaGreatDoor
