/- The law GaussEven: the loops over the maps, in whatever order. -/
import Derived.Test.YtleoalcbgpjieaaDoorEW1
namespace Go.Proofs.YtleoalcbgpjieaaDoor
open Go.Ab
set_option linter.unusedVariables false
set_option linter.unusedSimpArgs false
set_option linter.unusedSectionVars false
set_option maxRecDepth 20000
set_option maxHeartbeats 4000000

/-! ### The map of the pairs -/
theorem ent_set (es : EsG) (ns : List Int) (z0 v : SV) : ∃ w, (entG es ns z0)[idxG es ns]? = some (ns, w) ∧ (entG es ns z0).set (idxG es ns) (ns, v) = putG es ns v := by
  have := findIdx_G es ns
  unfold entG idxG putG
  cases hf : es.findIdx? (fun p => p.1 == ns) with
  | none => exact ⟨z0, by simp, by simp⟩
  | some j =>
    rw [hf] at this
    obtain ⟨w, a, -⟩ := this
    exact ⟨w, a, rfl⟩
theorem kwM (a b : Int) : [a, b].length = zM.kw := by
  have : zM.kw = 2 := by decide
  rw [this]; rfl
structure Cnts (es2 : EsG) (Q : List (Int × Int)) : Prop where
  ok : OkG zM es2
  nd : (es2.map (·.1)).Nodup
  key : ∀ p ∈ es2, ∃ q : Int × Int, p.1 = [q.1, q.2] ∧ p.2 = .int .i64 (Q.count q : Nat)
  all : ∀ q ∈ Q, ∃ p ∈ es2, p.1 = [q.1, q.2]
theorem cnts_nil : Cnts [] [] := ⟨okMM, by simp, by simp, by simp⟩
theorem Cnts.get {es2 : EsG} {Q : List (Int × Int)} (c : Cnts es2 Q) (a b : Int) : (getG es2 [a, b]).getD (.int .i64 0) = .int .i64 (Q.count (a, b) : Nat) := by
  have := getG_spec es2 [a, b]
  cases hg : getG es2 [a, b] with
  | none =>
    rw [hg] at this
    have h0 : Q.count (a, b) = 0 := by
      rw [List.count_eq_zero]
      intro h
      obtain ⟨p, h1, h2⟩ := c.all _ h
      exact this p h1 h2
    rw [h0]; rfl
  | some v =>
    rw [hg] at this
    obtain ⟨q, h1, h2⟩ := c.key _ this
    simp only [List.cons.injEq, and_true] at h1
    obtain ⟨rfl, rfl⟩ := h1
    exact h2
theorem Cnts.put {es2 : EsG} {Q : List (Int × Int)} (c : Cnts es2 Q) (a b : Int) : Cnts (putG es2 [a, b] (.int .i64 ((Q.count (a, b) : Nat) + 1 : Int))) (Q ++ [(a, b)]) := by
  obtain ⟨p1, p2⟩ := putG_spec c.nd [a, b] (.int .i64 ((Q.count (a, b) : Nat) + 1 : Int))
  refine ⟨c.ok.put (kwM a b) _, p1, fun p hp => ?_, fun q hq => ?_⟩
  · rcases (p2 p).1 hp with rfl | ⟨h1, h2⟩
    · refine ⟨(a, b), rfl, ?_⟩
      rw [List.count_append, List.count_cons_self, List.count_nil]
      simp
    · obtain ⟨q, h3, h4⟩ := c.key p h1
      refine ⟨q, h3, ?_⟩
      have hne : (a, b) ≠ q := fun e => h2 (by rw [h3, ← e])
      rw [h4, List.count_append, List.count_cons_of_ne hne, List.count_nil, Nat.add_zero]
  · by_cases e : q = (a, b)
    · subst e
      exact ⟨_, (p2 _).2 (.inl rfl), rfl⟩
    · have hq' : q ∈ Q := by
        rcases List.mem_append.1 hq with h | h
        · exact h
        · exact absurd (by simpa using h) e
      obtain ⟨p, h1, h2⟩ := c.all q hq'
      refine ⟨p, (p2 p).2 (.inr ⟨h1, fun e2 => e ?_⟩), h2⟩
      rw [h2] at e2
      simp only [List.cons.injEq, and_true] at e2
      exact Prod.ext e2.1 e2.2
/-- What an entry holds, once all visits are noted. -/
structure Full (W : List T3) (es : EsG) : Prop where
  two : ∀ p ∈ es, ∃ i0 k0 i1 k1 : Nat, conP W (p.1.headD 0) = [(i0 : Int), (k0 : Int), (i1 : Int), (k1 : Int)] ∧ i0 ≤ 1000000 ∧ k0 ≤ 1000000 ∧ i1 ≤ 1000000 ∧ k1 ≤ 1000000 ∧ (i0 = i1 → k0 < k1 ∧ k0 % 2 ≠ k1 % 2)
  len : es.length ≤ 1000000
def prE (W : List T3) (es : EsG) (i : Nat) : Option (Int × Int) := (es[i]?).bind fun p => prL (conP W (p.1.headD 0))
def Qs (W : List T3) (es : EsG) (seen : List Nat) : List (Int × Int) := seen.filterMap (prE W es)
theorem Qs_snoc (W : List T3) (es : EsG) (seen : List Nat) (i : Nat) : Qs W es (seen ++ [i]) = Qs W es seen ++ (prE W es i).toList := by
  unfold Qs
  rw [List.filterMap_append]
  congr 1
theorem seen_len {n : Nat} {seen : List Nat} (hn : seen.Nodup) (hl : ∀ i ∈ seen, i < n) : seen.length ≤ n := by
  have := fit_len (T := List.range n) hn fun i hi => List.mem_range.2 (hl i hi)
  simpa using this
theorem seen_snoc {n i : Nat} {seen : List Nat} (hn : seen.Nodup) (hl : ∀ i ∈ seen, i < n) (hi : i < n) (hs : i ∉ seen) : (seen ++ [i]).Nodup ∧ ∀ j ∈ seen ++ [i], j < n := by
  refine ⟨?_, fun j hj => ?_⟩
  · rw [List.nodup_append]
    exact ⟨hn, by simp, fun a ha b hb e => by simp at hb; subst hb; subst e; exact hs ha⟩
  · rcases List.mem_append.1 hj with h | h
    · exact hl j h
    · simp at h; subst h; exact hi

attribute [local irreducible] wOps wA wSeq wBlk wRound wRoundI wOpsD wOpsS
section
variable (H : Heap) (b p3 m : Nat) (W : List T3) (es : EsG)
abbrev itA (seen : List Nat) : Blk := .cells (iterB m es.length seen) true zIt
def I5m (E : Env) (h : Heap) : Prop := ∃ (seen : List Nat) (es2 : EsG), seen.Nodup ∧ (∀ i ∈ seen, i < es.length) ∧ Cnts es2 (Qs W es seen) ∧ h = H ++ [MG zM es2, itA m es seen] ∧ E.get 67 = some (.sc (.itv (H.length + 1))) ∧
  E.keep [1, 3, 5, 10, 67] = [(1, some (.sc (.ptr b 0))), (3, some (.sc (.ptr p3 0))), (5, some (.sc (.mapv m))), (10, some (.sc (.mapv H.length))), (67, some (.sc (.itv (H.length + 1))))]
/-- Entries that were not seen. -/
def leftM (n t : Nat) (E : Env) (h : Heap) : Nat := match E.get t with
  | some (.sc (.itv id)) => match h[id]? with
    | some (.cells cs _ _) => n + 2 - cs.length
    | _ => 0
  | _ => 0
def R5m (ex : Ex) (E : Env) (h : Heap) : Prop := ex = .ex 4 ∧ ∃ (seen : List Nat) (es2 : EsG), seen.Nodup ∧ (∀ i, i ∈ seen ↔ i < es.length) ∧ Cnts es2 (Qs W es seen) ∧ h = H ++ [MG zM es2, itA m es seen] ∧ ∃ a b' c,
  E = [(1, some (.sc (.ptr b 0))), (3, a), (5, some (.sc (.mapv m))), (10, some (.sc (.mapv H.length))), (67, b'), (69, c)]
theorem leftM_at {E : Env} (he : E.get 67 = some (.sc (.itv (H.length + 1)))) (es2 : EsG) (seen : List Nat) : leftM es.length 67 E (H ++ [MG zM es2, itA m es seen]) = es.length - seen.length := by
  have e1 : (H ++ [MG zM es2, itA m es seen])[H.length + 1]? = some (itA m es seen) := by rw [get_app]; rfl
  unfold leftM
  rw [he]
  simp only []
  rw [e1]
  simp only [iterB, seenV, List.length_cons, List.length_map]
  omega
variable [Base] {A : Heap} {Y Sg : SV} {C : List (List Vis)} {l : Int}
theorem round5m (hk : HKok Tryd.prog HKt) (st : Ats A H m W es) (hF : Full W es) (hb3 : Blk.At H p3 [Y, Sg, .int .i64 l]) (lY : lenS false Y = some (C.length : Int)) (n : Nat) (E : Env) (h : Heap) (hI : I5m H b p3 m W es E h) :
    RW Tryd.prog n b5L2 (E.keep [1, 3, 5, 10, 67]) h (wRound (I5m H b p3 m W es) (leftM es.length 67) (leftM es.length 67 E h) (R5m H b m W es)) := by
  obtain ⟨seen, es2, hnd, hlt, hC, rfl, hE1, hE⟩ := hI
  rw [leftM_at H m es hE1, hE]
  have hgI : (H ++ [MG zM es2, itA m es seen])[H.length + 1]? = some (itA m es seen) := by rw [get_app]; rfl
  have hgm : ∀ (T : Heap), (H ++ T)[m]? = some (MG zA es) := fun T => mono_app m _ st.blk
  refine RW.seq ?_
  refine RW.nextG (it := H.length + 1) (m := m) (es := es) (z := zA) (seen := seen) ft_ok hk st.ok rfl hgI (hgm _) ?_ ?_
  · intro hall
    repeat' (first | refine w_seqN ?_ | ((refine i_nil ?_); refine w_end6 rfl rfl rfl rfl rfl rfl ?_) | ((refine i_cons ?_); refine k_ok rfl rfl ?_))
    refine RW.det ft_ok hk ?_
    repeat' (first | refine w_seq ?_ | refine w_seqX ?_ | refine w_exit ?_ | ((refine i_cond ?_); refine w_condF rfl ?_))
    exact w_roundX ⟨rfl, seen, es2, hnd, fun i => ⟨hlt i, hall i⟩, hC, rfl, _, _, _, rfl⟩
  · intro i p hp hns
    have hil := (List.getElem?_eq_some_iff.1 hp).1
    have hpm := List.mem_of_getElem? hp
    obtain ⟨c, hpc, -⟩ := st.key p hpm
    obtain ⟨i0, k0, i1, k1, h4, q1, q2, q3, q4, hodd⟩ := hF.two p hpm
    have ho := (st.own p hpm c hpc).1
    have hc4 : conP W c = [(i0 : Int), (k0 : Int), (i1 : Int), (k1 : Int)] := by rw [← h4, hpc]; rfl
    rw [hc4] at ho
    have hpr : prE W es i = if (i0 : Int) ≠ (i1 : Int) then some ((i0 : Int), (i1 : Int)) else none := by
      unfold prE
      rw [hp, Option.bind_some, h4]
      rfl
    obtain ⟨n1, n2⟩ := seen_snoc hnd hlt hil hns
    have hsl := seen_len n1 n2
    have hsl1 : (seen ++ [i]).length = seen.length + 1 := by simp
    have hel := hF.len
    have hQl : (Qs W es seen).length ≤ seen.length := List.length_filterMap_le _ _
    obtain ⟨pk, pv⟩ := p
    simp only at ho
    rcases ho with ⟨-, h0⟩ | ⟨sid, cap, cs, rfl, ho1, ho2, ho3, ho4⟩
    · cases h0
    have hset : ∀ x y : Blk, (H ++ [x, y]).set (H.length + 1) (itA m es (seen ++ [i])) = H ++ [x, itA m es (seen ++ [i])] := fun x y => by
      rw [List.set_append_right _ _ (by omega)]; simp
    have hset0 : ∀ x y z : Blk, (H ++ [x, y]).set H.length z = H ++ [z, y] := fun x y z => by
      rw [List.set_append_right _ _ (by omega)]; simp
    rw [hset]
    have hcl : 4 ≤ cs.length := by
      have := congrArg List.length ho3
      simp [ints] at this
      omega
    have rd : ∀ (T : Heap) (j : Nat) (x : Int), [(i0 : Int), (k0 : Int), (i1 : Int), (k1 : Int)][j]? = some x → readN (H ++ T) sid (0 + j * 1) 1 = some [.int .i64 x] := fun T j x hj => by
      have hg : (H ++ T)[sid]? = some (.cells cs true 1) := mono_app sid _ ho2
      have hj4 : j < 4 := by have := (List.getElem?_eq_some_iff.1 hj).1; simpa using this
      unfold readN
      rw [hg]
      simp only
      unfold cut
      rw [if_pos (by omega)]
      have e1 : cs[j]? = some (.int .i64 x) := by
        have h1 : (cs.take 4)[j]? = cs[j]? := by rw [List.getElem?_take, if_pos hj4]
        have h2 : (ints [(i0 : Int), (k0 : Int), (i1 : Int), (k1 : Int)]).length = 4 := rfl
        rw [h2] at ho3
        rw [← h1, ho3]
        simp only [ints, List.getElem?_map, hj, Option.map_some]
      obtain ⟨hjl, e2⟩ := List.getElem?_eq_some_iff.1 e1
      rw [show 0 + j * 1 = j by omega, List.drop_eq_getElem_cons hjl, e2]
      rfl
    have r0 : ∀ T, readN (H ++ T) sid (0 + ((0 : Int)).toNat * 1) 1 = some [.int .i64 (i0 : Int)] := fun T => rd T 0 _ rfl
    have r1 : ∀ T, readN (H ++ T) sid (0 + ((1 : Int)).toNat * 1) 1 = some [.int .i64 (k0 : Int)] := fun T => rd T 1 _ rfl
    have r2 : ∀ T, readN (H ++ T) sid (0 + ((2 : Int)).toNat * 1) 1 = some [.int .i64 (i1 : Int)] := fun T => rd T 2 _ rfl
    have r3 : ∀ T, readN (H ++ T) sid (0 + ((3 : Int)).toNat * 1) 1 = some [.int .i64 (k1 : Int)] := fun T => rd T 3 _ rfl
    have hgI' : ∀ x : Blk, (H ++ [x, itA m es (seen ++ [i])])[H.length + 1]? = some (itA m es (seen ++ [i])) := fun x => by rw [get_app]; rfl
    have hg2 : ∀ x y : Blk, (H ++ [x, y])[H.length]? = some x := fun x y => by
      have := get_app H [x, y] 0
      simp
    have hlen4 : lenS false (SV.slc sid 0 (ints [(i0 : Int), (k0 : Int), (i1 : Int), (k1 : Int)]).length cap) = some 4 := rfl
    have hl4 : ((ints [(i0 : Int), (k0 : Int), (i1 : Int), (k1 : Int)]).length : Nat) = 4 := rfl
    have bb := hb3.ext (show Ext H (H ++ [MG zM es2, itA m es (seen ++ [i])]) from ⟨_, rfl⟩)
    repeat' (first | refine w_seqN ?_ | ((refine i_nil ?_); refine w_end6 rfl rfl rfl rfl rfl rfl ?_) | ((refine i_cons ?_); refine k_ok rfl rfl ?_))
    refine RW.det ft_ok hk ?_
    by_cases hne : i0 = i1
    · obtain ⟨hkk, hod⟩ := hodd hne
      have hmod : ((k1 : Int) - (k0 : Int)) % 2 = 1 := by omega
      have hQ : Qs W es (seen ++ [i]) = Qs W es seen := by
        rw [Qs_snoc, hpr, if_neg (by omega)]; simp
      by_cases hC1 : C.length = 1
      · repeat' (first | refine w_seq ?_ | refine w_seqN ?_ | refine w_blk ?_ | refine w_blkN ?_ | refine w_skip ?_ | refine w_ops ?_ | refine w_opsD ?_ | refine d_one ?_ | refine d_nil ?_ | ((refine i_cond ?_); first | refine w_condT rfl ?_ | refine w_condF rfl ?_) | ((refine i_nil ?_); first | refine d_same ?_ | refine w_end6 rfl rfl rfl rfl rfl rfl ?_ | refine w_end7 rfl rfl rfl rfl rfl rfl rfl ?_) | ((refine i_cons ?_); first | refine g_mpT st.ok rfl (hgI' _) (hgm _) rfl hp ?_ | refine k_len rfl hlen4 ?_ | refine k_len rfl lY ?_ | refine k_idxA (esz := 1) rfl rfl (by omega) ?_ | refine k_ld rfl (r0 _) ?_ | refine k_ld rfl (r2 _) ?_ | refine k_ld rfl (r3 _) ?_ | refine k_ld rfl (r1 _) ?_ | refine k_fldA rfl ?_ | refine k_ldb rfl bb rfl ?_ | refine k_want rfl ?_ | refine k_mv rfl ?_ | refine k_pickT rfl rfl ?_ | refine k_sub rfl rfl (by omega) ?_ | refine k_rem rfl rfl (by omega) ?_ | refine k_eqlT rfl rfl (by omega) ?_ | refine k_eqlF rfl rfl (by omega) ?_ | refine k_neqF rfl rfl (by omega) ?_ | refine k_ok rfl rfl ?_))
        refine w_roundN ⟨seen ++ [i], es2, n1, n2, by rw [hQ]; exact hC, rfl, rfl, rfl⟩ ?_
        rw [leftM_at H m es rfl, hsl1]
        omega
      · repeat' (first | refine w_seq ?_ | refine w_seqN ?_ | refine w_blk ?_ | refine w_blkN ?_ | refine w_skip ?_ | refine w_ops ?_ | refine w_opsD ?_ | refine d_one ?_ | refine d_nil ?_ | ((refine i_cond ?_); first | refine w_condT rfl ?_ | refine w_condF rfl ?_) | ((refine i_nil ?_); first | refine d_same ?_ | refine w_end6 rfl rfl rfl rfl rfl rfl ?_ | refine w_end7 rfl rfl rfl rfl rfl rfl rfl ?_) | ((refine i_cons ?_); first | refine g_mpT st.ok rfl (hgI' _) (hgm _) rfl hp ?_ | refine k_len rfl hlen4 ?_ | refine k_len rfl lY ?_ | refine k_idxA (esz := 1) rfl rfl (by omega) ?_ | refine k_ld rfl (r0 _) ?_ | refine k_ld rfl (r2 _) ?_ | refine k_fldA rfl ?_ | refine k_ldb rfl bb rfl ?_ | refine k_skip rfl ?_ | refine k_mv rfl ?_ | refine k_pickF rfl rfl ?_ | refine k_eqlF rfl rfl (by omega) ?_ | refine k_neqF rfl rfl (by omega) ?_ | refine k_ok rfl rfl ?_))
        refine w_roundN ⟨seen ++ [i], es2, n1, n2, by rw [hQ]; exact hC, rfl, rfl, rfl⟩ ?_
        rw [leftM_at H m es rfl, hsl1]
        omega
    · have hQ : Qs W es (seen ++ [i]) = Qs W es seen ++ [((i0 : Int), (i1 : Int))] := by
        rw [Qs_snoc, hpr, if_pos (by omega)]; rfl
      have hg := hC.get (i0 : Int) (i1 : Int)
      have hcnt : (Qs W es seen).count ((i0 : Int), (i1 : Int)) ≤ 1000000 := by
        have := List.count_le_length (a := ((i0 : Int), (i1 : Int))) (l := Qs W es seen)
        omega
      have hCp := hC.put (i0 : Int) (i1 : Int)
      rw [← hQ] at hCp
      obtain ⟨w, e1, e2⟩ := ent_set es2 [(i0 : Int), (i1 : Int)] (.int .i64 0) (.int .i64 (((Qs W es seen).count ((i0 : Int), (i1 : Int)) : Nat) + 1 : Int))
      have okE := hC.ok.ent (ns := [(i0 : Int), (i1 : Int)]) (kwM _ _) (.int .i64 0)
      repeat' (first | refine w_seq ?_ | refine w_seqN ?_ | refine w_blk ?_ | refine w_blkN ?_ | refine w_skip ?_ | refine w_ops ?_ | refine w_opsD ?_ | refine d_one ?_ | refine d_nil ?_ | ((refine i_cond ?_); first | refine w_condT rfl ?_ | refine w_condF rfl ?_) | ((refine i_nil ?_); first | refine d_same ?_ | refine d_ord ?_ | refine w_end5 rfl rfl rfl rfl rfl ?_ | refine w_end6 rfl rfl rfl rfl rfl rfl ?_ | refine w_end7 rfl rfl rfl rfl rfl rfl rfl ?_) | ((refine i_cons ?_); first | refine g_mpT st.ok rfl (hgI' _) (hgm _) rfl hp ?_ | refine k_len rfl hlen4 ?_ | refine k_idxA (esz := 1) rfl rfl (by omega) ?_ | refine k_ld rfl (r0 _) ?_ | refine k_ld rfl (r2 _) ?_ | refine k_bld rfl rfl ?_ | (refine g_mpL (ns := [(i0 : Int), (i1 : Int)]) hC.ok rfl (hg2 _ _) rfl rfl (kwM _ _) ?_; rw [hg]) | (refine g_mpE (ns := [(i0 : Int), (i1 : Int)]) hC.ok rfl (hg2 _ _) rfl rfl (kwM _ _) ?_; rw [hset0]) | (refine g_mpS okE rfl (hg2 _ _) rfl e1 rfl ?_; rw [hset0, e2]) | refine k_mv rfl ?_ | refine k_add rfl rfl (by omega) ?_ | refine k_neqT rfl rfl (by omega) ?_ | refine k_neqF rfl rfl (by omega) ?_ | refine k_ok rfl rfl ?_))
      refine w_roundN ⟨seen ++ [i], _, n1, n2, hCp, rfl, rfl, rfl⟩ ?_
      rw [leftM_at H m es rfl, hsl1]
      omega
end
section
variable (H : Heap) (b m : Nat) (es2 : EsG) (B1 : Blk)
abbrev itM (seen : List Nat) : Blk := .cells (iterB H.length es2.length seen) true zIt
def I5n (E : Env) (h : Heap) : Prop := ∃ seen : List Nat, seen.Nodup ∧ (∀ i ∈ seen, i < es2.length) ∧ h = H ++ [MG zM es2, B1, itM H es2 seen] ∧ E.get 110 = some (.sc (.itv (H.length + 2))) ∧
  E.keep [1, 5, 110] = [(1, some (.sc (.ptr b 0))), (5, some (.sc (.mapv m))), (110, some (.sc (.itv (H.length + 2))))]
def R5n (ex : Ex) (E : Env) (h : Heap) : Prop := ex = .ex 6 ∧ ∃ B2 : Blk, h = H ++ [MG zM es2, B1, B2] ∧ ∃ a c,
  E = [(1, some (.sc (.ptr b 0))), (5, some (.sc (.mapv m))), (110, a), (112, c)]
theorem leftN_at {E : Env} (he : E.get 110 = some (.sc (.itv (H.length + 2)))) (seen : List Nat) : leftM es2.length 110 E (H ++ [MG zM es2, B1, itM H es2 seen]) = es2.length - seen.length := by
  have e1 : (H ++ [MG zM es2, B1, itM H es2 seen])[H.length + 2]? = some (itM H es2 seen) := by rw [get_app]; rfl
  unfold leftM
  rw [he]
  simp only []
  rw [e1]
  simp only [iterB, seenV, List.length_cons, List.length_map]
  omega
variable [Base]
theorem round5n (hk : HKok Tryd.prog HKt) (ok : OkG zM es2) (hev : ∀ p ∈ es2, ∃ k : Nat, p.2 = .int .i64 (k : Nat) ∧ k % 2 = 0 ∧ k ≤ 1000000) (n : Nat) (E : Env) (h : Heap) (hI : I5n H b m es2 B1 E h) :
    RW Tryd.prog n b5L3 (E.keep [1, 5, 110]) h (wRound (I5n H b m es2 B1) (leftM es2.length 110) (leftM es2.length 110 E h) (R5n H b m es2 B1)) := by
  obtain ⟨seen, hnd, hlt, rfl, hE1, hE⟩ := hI
  rw [leftN_at H es2 B1 hE1, hE]
  have hgI : ∀ s, (H ++ [MG zM es2, B1, itM H es2 s])[H.length + 2]? = some (itM H es2 s) := fun s => by rw [get_app]; rfl
  have hg2 : ∀ x y z : Blk, (H ++ [x, y, z])[H.length]? = some x := fun x y z => by simp
  refine RW.seq ?_
  refine RW.nextG (it := H.length + 2) (m := H.length) (es := es2) (z := zM) (seen := seen) ft_ok hk ok rfl (hgI _) (hg2 _ _ _) ?_ ?_
  · intro hall
    repeat' (first | refine w_seqN ?_ | ((refine i_nil ?_); refine w_end4 rfl rfl rfl rfl ?_) | ((refine i_cons ?_); refine k_ok rfl rfl ?_))
    refine RW.det ft_ok hk ?_
    repeat' (first | refine w_seq ?_ | refine w_seqX ?_ | refine w_exit ?_ | ((refine i_cond ?_); refine w_condF rfl ?_))
    exact w_roundX ⟨rfl, _, rfl, _, _, rfl⟩
  · intro i p hp hns
    have hil := (List.getElem?_eq_some_iff.1 hp).1
    obtain ⟨k, hpk, hk2, hk6⟩ := hev p (List.mem_of_getElem? hp)
    obtain ⟨n1, n2⟩ := seen_snoc hnd hlt hil hns
    have hsl := seen_len n1 n2
    have hsl1 : (seen ++ [i]).length = seen.length + 1 := by simp
    obtain ⟨pk, pv⟩ := p
    simp only at hpk
    subst hpk
    have hset : ∀ x y z : Blk, (H ++ [x, y, z]).set (H.length + 2) (itM H es2 (seen ++ [i])) = H ++ [x, y, itM H es2 (seen ++ [i])] := fun x y z => by
      rw [List.set_append_right _ _ (by omega)]; simp
    rw [hset]
    have hmod : (k : Int) % 2 = 0 := by omega
    repeat' (first | refine w_seqN ?_ | ((refine i_nil ?_); refine w_end4 rfl rfl rfl rfl ?_) | ((refine i_cons ?_); refine k_ok rfl rfl ?_))
    refine RW.det ft_ok hk ?_
    repeat' (first | refine w_seq ?_ | refine w_seqN ?_ | refine w_blk ?_ | refine w_blkN ?_ | refine w_skip ?_ | refine w_ops ?_ | ((refine i_cond ?_); first | refine w_condT rfl ?_ | refine w_condF rfl ?_) | ((refine i_nil ?_); refine w_end4 rfl rfl rfl rfl ?_) | ((refine i_cons ?_); first | refine g_mpT ok rfl (hgI _) (hg2 _ _ _) rfl hp ?_ | refine k_mv rfl ?_ | refine k_rem rfl rfl (by omega) ?_ | refine k_neqF rfl rfl (by omega) ?_ | refine k_ok rfl rfl ?_))
    refine w_roundN ⟨seen ++ [i], n1, n2, rfl, rfl, rfl⟩ ?_
    rw [leftN_at H es2 B1 rfl, hsl1]
    omega
end
end Go.Proofs.YtleoalcbgpjieaaDoor
