import Derived.Test.YtlnjddjobbhcaaaDoorAb44
import Derived.Test.YtlnjddjobbhcaaaDoorAb29
import Derived.Test.YtlnjddjobbhcaaaDoorAb32
import Derived.Lib.SlKeysI
import Derived.Maps.Range
import Derived.Maps.OwnSet
/- Maps from ints to values of two cells: steps. -/
namespace Go.Ab
set_option linter.unusedSectionVars false
set_option linter.unusedVariables false

abbrev zIW : ESz := ⟨1001002, none⟩
/-- The entries' cells. -/
def prW (es : List (Int × (SV × SV))) : List SV := (es.map fun p => [.int .i64 p.1, p.2.1, p.2.2]).flatten
abbrev MBW (es : List (Int × (SV × SV))) : Blk := .cells (prW es) true zIW
theorem prW_cons (p : Int × (SV × SV)) (es : List (Int × (SV × SV))) : prW (p :: es) = .int .i64 p.1 :: p.2.1 :: p.2.2 :: prW es := rfl
theorem prW_len (es : List (Int × (SV × SV))) : (prW es).length = es.length * 3 := by
  induction es with
  | nil => rfl
  | cons p es ih => rw [prW_cons]; simp only [List.length_cons, ih]; omega
theorem prW_app (a b : List (Int × (SV × SV))) : prW (a ++ b) = prW a ++ prW b := by simp [prW]
theorem prW_drop : ∀ (es : List (Int × (SV × SV))) (i : Nat) (p : Int × (SV × SV)), es[i]? = some p → (prW es).drop (i * 3) = .int .i64 p.1 :: p.2.1 :: p.2.2 :: prW (es.drop (i + 1))
  | [], i, p, h => by simp at h
  | q :: es, 0, p, h => by simp at h; subst h; rfl
  | q :: es, i + 1, p, h => by
    rw [List.getElem?_cons_succ] at h
    have := prW_drop es i p h
    rw [prW_cons, show (i + 1) * 3 = i * 3 + 1 + 1 + 1 by omega, List.drop_succ_cons, List.drop_succ_cons, List.drop_succ_cons, this, List.drop_succ_cons]
theorem prW_take (es : List (Int × (SV × SV))) (i : Nat) : (prW es).take (i * 3) = prW (es.take i) := by
  induction es generalizing i with
  | nil => simp [prW]
  | cons p es ih =>
    cases i with
    | zero => simp [prW]
    | succ i =>
      rw [prW_cons, show (i + 1) * 3 = i * 3 + 1 + 1 + 1 by omega, List.take_succ_cons, List.take_succ_cons, List.take_succ_cons, ih, List.take_succ_cons, prW_cons]
theorem kwIW : zIW.kw = 1 := by decide
theorem vwIW : zIW.vw = 2 := by decide
theorem entK_IW {es : List (Int × (SV × SV))} {i : Nat} {p : Int × (SV × SV)} (h : es[i]? = some p) : entK zIW (prW es) i = [.int .i64 p.1] := by
  unfold entK
  rw [kwIW, vwIW, prW_drop es i p h]; rfl
theorem entV_IW {es : List (Int × (SV × SV))} {i : Nat} {p : Int × (SV × SV)} (h : es[i]? = some p) : entV zIW (prW es) i = [p.2.1, p.2.2] := by
  unfold entV
  rw [kwIW, vwIW, ← List.drop_drop, prW_drop es i p h]; rfl
theorem lenIW (es : List (Int × (SV × SV))) : (prW es).length / (zIW.kw + zIW.vw) = es.length := by
  rw [kwIW, vwIW, prW_len]; omega
theorem keysIW (es : List (Int × (SV × SV))) : keysI zIW (prW es) = es.map fun p => [p.1] := by
  unfold keysI
  rw [lenIW]
  refine List.ext_getElem? fun i => ?_
  by_cases hi : i < es.length
  · have hg : es[i]? = some es[i] := List.getElem?_eq_getElem hi
    simp only [List.getElem?_map, List.getElem?_range hi, hg, Option.map_some, entK_IW hg]
    rfl
  · rw [List.getElem?_eq_none (by simp; omega), List.getElem?_eq_none (by simp; omega)]
theorem findIW (es : List (Int × (SV × SV))) (k : Int) : findI zIW (prW es) [k] = es.findIdx? fun p => p.1 == k := by
  unfold findI
  rw [keysIW, List.findIdx?_map]
  congr 1
  funext p
  simp
/-- What a key holds. -/
def getW (es : List (Int × (SV × SV))) (k : Int) : Option (SV × SV) := (es.find? fun p => p.1 == k).map (·.2)
def setW (es : List (Int × (SV × SV))) (k : Int) (v : SV × SV) : List (Int × (SV × SV)) := match es.findIdx? fun p => p.1 == k with
  | some j => es.set j (k, v)
  | none => es ++ [(k, v)]
theorem findIdx_getW : ∀ (es : List (Int × (SV × SV))) (k : Int), match es.findIdx? (fun p => p.1 == k) with
    | some j => ∃ p, es[j]? = some p ∧ p.1 = k ∧ getW es k = some p.2
    | none => getW es k = none
  | [], k => rfl
  | q :: es, k => by
    rw [List.findIdx?_cons]
    by_cases h : (q.1 == k) = true
    · rw [if_pos h]
      exact ⟨q, rfl, by simpa using h, by unfold getW; rw [List.find?_cons, h]; rfl⟩
    · rw [if_neg h]
      have ih := findIdx_getW es k
      have e : getW (q :: es) k = getW es k := by
        unfold getW
        rw [List.find?_cons]
        simp only [h]
      rw [e]
      cases hf : es.findIdx? (fun p => p.1 == k) with
      | none => rw [hf] at ih; exact ih
      | some j =>
        rw [hf] at ih
        obtain ⟨p, a, b, c⟩ := ih
        exact ⟨p, by simpa using a, b, c⟩
theorem splice_W {es : List (Int × (SV × SV))} {j : Nat} {p : Int × (SV × SV)} {k : Int} {v : SV × SV} (hp : es[j]? = some p) (hk : p.1 = k) : splice (prW es) (j * (zIW.kw + zIW.vw) + zIW.kw) [v.1, v.2] = prW (es.set j (k, v)) := by
  have hj := (List.getElem?_eq_some_iff.1 hp).1
  rw [kwIW, vwIW]
  unfold splice
  rw [List.set_eq_take_append_cons_drop, if_pos hj, prW_app, prW_cons]
  have hd := prW_drop es j p hp
  have e1 : (prW es).take (j * 3 + 1) = prW (es.take j) ++ [.int .i64 k] := by
    rw [List.take_add, prW_take, hd, hk]; rfl
  have e2 : (prW es).drop (j * 3 + 1 + 2) = prW (es.drop (j + 1)) := by
    rw [show j * 3 + 1 + 2 = j * 3 + 3 by omega, ← List.drop_drop, hd]; rfl
  have e3 : (prW es).drop (j * (1 + 2) + 1 + [v.1, v.2].length) = prW (es.drop (j + 1)) := e2
  rw [e1, e3]
  simp
section
variable {FT : FuncId → Option AFun} {HK : FuncId → Option Hook} {E : Env} {h : Heap} {K : Env → Heap → Prop} {d : Option Nat} {r : List AOp} {x y v : AO}
theorem k_mpMW (hw : wOps FT HK r (bindE d (some (.sc (.mapv h.length))) E) (h ++ [MBW []]) K) : wOps FT HK (⟨d, .mpM zIW, none⟩ :: r) E h K := by
  refine op_ok (v := some (.sc (.mapv h.length))) (h' := h ++ [MBW []]) rfl rfl ?_ hw
  simp only [step1]
  rw [if_pos (by decide)]
  rfl
theorem k_mpLW {id : Nat} {es : List (Int × (SV × SV))} {n : Int} {a b : SV} {o : SV × SV} (hx : evS E x = some (.mapv id)) (hL : h[id]? = some (MBW es)) (hy : ev E y = some (.sc (.int .i64 n))) (ho : (getW es n).getD (a, b) = o)
    (hw : wOps FT HK r (bindE d (some (.agg [o.1, o.2])) E) h K) : wOps FT HK (⟨d, .mpL zIW [a, b] false x y, none⟩ :: r) E h K := by
  refine op_ok rfl rfl ?_ hw
  have hi : intsOf [.int .i64 n] = some [n] := rfl
  simp only [step1, hx, hL, if_true, hy, mpOK, Option.bind_some, hi, findIW]
  rw [if_pos (show [n].length = zIW.kw by rw [kwIW]; rfl)]
  have := findIdx_getW es n
  subst ho
  cases hf : es.findIdx? (fun p => p.1 == n) with
  | none => rw [hf] at this; simp only [] at this; rw [this]; rfl
  | some j =>
    rw [hf] at this
    obtain ⟨p, a, b, c⟩ := this
    rw [c]
    simp only [entV_IW a]
    rfl
theorem k_mpUW {id : Nat} {es : List (Int × (SV × SV))} {n : Int} {a b : SV} (hx : evS E x = some (.mapv id)) (hL : h[id]? = some (MBW es)) (hy : ev E y = some (.sc (.int .i64 n))) (hv : ev E v = some (.agg [a, b]))
    (hw : wOps FT HK r (bindE d none E) (h.set id (MBW (setW es n (a, b)))) K) : wOps FT HK (⟨d, .mpU zIW x y v, none⟩ :: r) E h K := by
  refine op_ok (v := none) (h' := h.set id (MBW (setW es n (a, b)))) rfl rfl ?_ hw
  have hi : intsOf [.int .i64 n] = some [n] := rfl
  have hl2 : ([a, b] : List SV).length ≠ 1 := by simp
  simp only [step1, hx, hL, if_true, hy, hv, mpOK, Option.bind_some, hi, findIW, hl2, if_false]
  rw [if_pos (⟨by rw [kwIW]; rfl, by rw [vwIW]; rfl⟩ : [n].length = zIW.kw ∧ [a, b].length = zIW.vw)]
  have := findIdx_getW es n
  unfold setW
  cases hf : es.findIdx? (fun p => p.1 == n) with
  | none =>
    have hp : prW (es ++ [(n, (a, b))]) = prW es ++ [.int .i64 n] ++ [a, b] := by simp [prW]
    simp only [← hp]
  | some j =>
    rw [hf] at this
    obtain ⟨p, c1, c2, c3⟩ := this
    simp only []
    have := splice_W (v := (a, b)) c1 c2
    simp only at this
    rw [this]
end
/-! ### A map as a function -/
/-- The entries of the keys K. -/
def esF (g : Int → SV × SV) (K : List Int) : List (Int × (SV × SV)) := K.map fun k => (k, g k)
theorem esF_find (g : Int → SV × SV) (k : Int) : ∀ K : List Int, (esF g K).find? (fun p => p.1 == k) = if k ∈ K then some (k, g k) else none
  | [] => rfl
  | a :: K => by
    have ih := esF_find g k K
    unfold esF at ih ⊢
    rw [List.map_cons, List.find?_cons]
    by_cases h : a = k
    · subst h; simp
    · have h2 : (a == k) = false := by simpa using h
      simp only [h2]
      rw [ih]
      have h3 : ¬ k = a := fun e => h e.symm
      simp [h3]
theorem getW_F (g : Int → SV × SV) (K : List Int) (k : Int) : getW (esF g K) k = if k ∈ K then some (g k) else none := by
  unfold getW
  rw [esF_find]
  split <;> rfl
theorem setW_F {g g' : Int → SV × SV} {K : List Int} (hn : K.Nodup) (k : Int) (hg : ∀ e, e ≠ k → g' e = g e) : setW (esF g K) k (g' k) = esF g' (if k ∈ K then K else K ++ [k]) := by
  unfold setW
  have hf := findIdx_getW (esF g K) k
  rw [getW_F] at hf
  cases hj : (esF g K).findIdx? (fun p => p.1 == k) with
  | none =>
    rw [hj] at hf
    have hk : k ∉ K := fun h => by simp [h] at hf
    simp only []
    rw [if_neg hk]
    unfold esF
    rw [List.map_append]
    congr 1
    exact List.map_congr_left fun e he => by rw [hg e (fun e2 => hk (e2 ▸ he))]
  | some j =>
    rw [hj] at hf
    obtain ⟨p, h1, h2, h3⟩ := hf
    have hk : k ∈ K := by
      apply Classical.byContradiction
      intro h
      simp [h] at h3
    simp only []
    rw [if_pos hk]
    have hKj : K[j]? = some k := by
      unfold esF at h1
      rw [List.getElem?_map, Option.map_eq_some_iff] at h1
      obtain ⟨a, b, rfl⟩ := h1
      simp only at h2
      rw [← h2]; exact b
    refine List.ext_getElem? fun i => ?_
    unfold esF
    rw [List.getElem?_set]
    simp only [List.getElem?_map, List.length_map]
    by_cases e : j = i
    · subst e
      have := (List.getElem?_eq_some_iff.1 hKj).1
      rw [if_pos rfl, if_pos this, hKj]; rfl
    · rw [if_neg e]
      cases hi : K[i]? with
      | none => rfl
      | some a =>
        have hne : a ≠ k := fun e2 => by
          subst e2
          obtain ⟨a1, a2⟩ := List.getElem?_eq_some_iff.1 hi
          obtain ⟨b1, b2⟩ := List.getElem?_eq_some_iff.1 hKj
          exact e ((List.getElem_inj (h₀ := b1) (h₁ := a1) hn).1 (b2.trans a2.symm))
        simp only [Option.map_some]
        rw [hg a hne]
end Go.Ab


/- slices.Sorted(maps.Keys(m)) at maps with keys of the type int: hooks. -/
namespace Go.Ab
variable [Base]
set_option linter.unusedSectionVars false
set_option linter.unusedVariables false

/-- maps.Keys: a closure over a cell that holds the map. -/
def keysHook (g t : Nat) : Hook := fun args h => match args with
  | [.sc (.mapv m)] => some (.sc (.fn g [(h.length, 0)]), h ++ [.cells [.mapv m] true ⟨0, some t⟩])
  | _ => none
theorem keysHook_ok {P : Program} {f g t : Nat} (hfn : fnIs P f = true)
    (hc : ∀ (mb : Option Nat) (w : World), Calls P f #[.map mb] w fun e w' => e = .returned (.func (.func g) #[] #[.pointer (some ⟨w.heap.size, 0, none⟩)]) ∧ w' = w.alloc (.cells #[.map mb] t)) : HkOK P f (keysHook g t) where
  fn := hfn
  len := fun args h v h' hs => by
    unfold keysHook at hs
    split at hs
    · simp at hs; rw [← hs.2]; simp
    · simp at hs
  run := fun args h v h' hs β w vs hvs R hf => by
    unfold keysHook at hs
    split at hs
    · rename_i m
      simp only [Option.some.injEq, Prod.mk.injEq] at hs
      obtain ⟨rfl, rfl⟩ := hs
      cases hvs with
      | cons h1 hvs =>
        cases hvs
        cases h1 with
        | sc h1 =>
          cases h1 with
          | mapv hL hn =>
            rename_i L
            refine (hc _ w).mono ?_
            rintro e w' ⟨rfl, rfl⟩
            have hfr : β h.length = none := hf _ (Nat.le_refl _) (by simp)
            obtain ⟨s1, s2⟩ := alloc_done R hfr #[.map (some L.b)] t [.mapv m] ⟨0, some t⟩ (fun t' ht => by cases ht; rfl) (show (0 : Nat) < 1000000 by decide) (fun _ => by simp) (by simp) (fun i v hi => by
              cases i with
              | zero => simp at hi; subst hi; exact ⟨_, rfl, .mapv hL hn⟩
              | succ i => simp at hi)
            exact ⟨_, _, rfl, .sc (.fn (.cons ⟨_, upd_same _ _ _, (by decide : (0 : Nat) < 1000000), rfl⟩ .nil)), s1, s2⟩
    · simp at hs

/-- A map's keys. -/
def keysZ (z : ESz) (cs : List SV) : List Int := (keysI z cs).map fun k => k.headD 0
/-- slices.Sorted of what maps.Keys gave. -/
def sortedHook (g t : Nat) : Hook := fun args h => match args with
  | [.sc (.fn f [(p, 0)])] => match h[p]? with
    | some (.cells [.mapv m] _ z0) => match h[m]? with
      | some (.cells cs true z) =>
        if f = g ∧ z0 = ⟨0, some t⟩ ∧ (1000000 ≤ z.n ∧ z.n < 2000000 ∧ z.kw = 1) ∧ cs ≠ [] ∧ (keysZ z cs).Nodup ∧ (∀ k ∈ keysZ z cs, -9223372036854775808 ≤ k ∧ k ≤ 9223372036854775807) ∧ (keysZ z cs).length ≤ 1000000 then
          some (.sc (.slc h.length 0 (keysZ z cs).length none), h ++ [.cells (((keysZ z cs).mergeSort (fun x y : Int => decide (x ≤ y))).map (.int .i64)) false 1])
        else none
      | _ => none
    | _ => none
  | _ => none
theorem map_keysZ {β : Bt} {w : World} {L : Loc} {cs : List SV} {z : ESz} {es : Array MapEntry} (h1 : cs.length = es.size * (z.kw + z.vw)) (hkw : z.kw = 1)
    (h4 : ∀ (i : Nat) (e : MapEntry), es[i]? = some e → e.born = i ∧ VRel β (entK z cs i) e.key ∧ VRel β (entV z cs i) e.val) (h5 : ∀ i, i < es.size → ∃ ns : List Int, entK z cs i = ns.map (.int .i64)) :
    es.toList.map (·.key) = (keysZ z cs).map (Value.int .i64) ∧ (keysZ z cs).length = es.size := by
  have hsz : cs.length / (z.kw + z.vw) = es.size := by rw [h1]; exact Nat.mul_div_cancel _ (by omega)
  have hlen : (keysZ z cs).length = es.size := by simp [keysZ, keysI, hsz]
  refine ⟨List.ext_getElem? fun i => ?_, hlen⟩
  by_cases hi : i < es.size
  · obtain ⟨e, he⟩ : ∃ e, es[i]? = some e := ⟨_, Array.getElem?_eq_getElem hi⟩
    obtain ⟨ns, hns⟩ := h5 i hi
    obtain ⟨-, hk, -⟩ := h4 i e he
    have hl := (entK_len h1 hi).1
    rw [hns, List.length_map, hkw] at hl
    match ns, hl with
    | [n], _ =>
      rw [hns] at hk
      have e2 := hk.key
      have e3 : (keysZ z cs)[i]? = some n := by
        have hin : intsOf ([n].map (SV.int .i64)) = some [n] := rfl
        simp only [keysZ, keysI, List.getElem?_map, hsz, List.getElem?_range hi, Option.map_some, hns, hin]
        rfl
      rw [List.getElem?_map, List.getElem?_map, e3]
      have e4 : es.toList[i]? = some e := by rw [← he]; simp
      rw [e4, Option.map_some, Option.map_some, e2]
      rfl
  · rw [List.getElem?_eq_none (by simp; omega), List.getElem?_eq_none (by simp; omega)]
/-- The integer that a key is. -/
def vOf : Value → Int
  | .int _ n => n
  | _ => 0
theorem keys_perm {P : Program} {kt : TypeId} {es : Array MapEntry} {ks : List Int} (q1 : es.toList.map (·.key) = ks.map (Value.int .i64))
    (hrd : ∀ x ∈ es.toList, ∃ n : Int, x.key = .int .i64 n ∧ Go.WideElems.rd P kt (fun _ => some ((DataW.nil : DataW Unit), [])) x = some (.int .i64 n, .nil)) :
    (Go.intKeys (.map ((es.toList.map (Go.WideElems.rg P kt fun _ => some ((DataW.nil : DataW Unit), []))).foldr DataW.insert []))).Perm ks := by
  have h1 : ((es.toList.map (Go.WideElems.rg P kt fun _ => some ((DataW.nil : DataW Unit), []))).map fun p => Go.intOf p.1) = (es.toList.map (·.key)).map vOf := by
    rw [List.map_map, List.map_map]
    refine List.map_congr_left fun x hx => ?_
    obtain ⟨n, e, hr⟩ := hrd x hx
    simp only [Function.comp_apply, Go.WideElems.rg, hr, Option.getD_some, e, vOf, Go.intOf]
  have h2 : (ks.map (Value.int .i64)).map vOf = ks := by
    rw [List.map_map]
    have : (vOf ∘ Value.int .i64) = id := by funext n; rfl
    rw [this, List.map_id]
  rw [q1, h2] at h1
  have h3 := (Go.WideShapes.sorted_perm (es.toList.map (Go.WideElems.rg P kt fun _ => some ((DataW.nil : DataW Unit), [])))).map fun p => Go.intOf p.1
  rw [h1] at h3
  exact h3
theorem sortedHook_ok {P : Program} {f g t kt : Nat} (hfn : fnIs P f = true) (hkt : P.underlying kt = some (.int .i64))
    (hc : ∀ (b Bm nn : Nat) (D0 : DataW Unit) (R : Value → Option (DataW Unit × List MemPlace)) (w : World), Bm < w.heap.size → w.cell? ⟨Bm, 0, none⟩ = some (.map (some b)) → w.ownsMap P kt R b nn D0 → Go.Maps.size D0 ≤ maxLen → Go.Maps.size D0 * 8 ≤ 140737488355328 →
      Calls P f #[.func (.func g) #[] #[.pointer (some ⟨Bm, 0, none⟩)]] w fun e w' => ∃ (v : Value) (ss : List Int), e = .returned v ∧ ss.Perm (Go.intKeys D0) ∧
        w'.ownsRow w.heap.size kt 1 v ss.length ((ss.mergeSort (fun x y : Int => decide (x ≤ y))).map (Value.int .i64)) ∧ (v = .slice none 0 0 ↔ ss = []) ∧ RowKit.Below w.heap.size w w') : HkOK P f (sortedHook g t) where
  fn := hfn
  len := fun args h v h' hs => by
    unfold sortedHook at hs
    split at hs
    · split at hs
      · split at hs
        · split at hs
          · simp at hs; rw [← hs.2]; simp
          · simp at hs
        · simp at hs
      · simp at hs
    · simp at hs
  run := fun args h v h' hs β w vs hvs R hf => by
    unfold sortedHook at hs
    split at hs
    case h_2 => simp at hs
    rename_i f' p
    split at hs
    case h_2 => simp at hs
    rename_i m rw0 z0 hp
    split at hs
    case h_2 => simp at hs
    rename_i cs z hm
    split at hs
    case isFalse => simp at hs
    rename_i hcond
    obtain ⟨rfl, rfl, ⟨z1, z2, z3⟩, hne, hnd, hrg, hlk⟩ := hcond
    simp only [Option.some.injEq, Prod.mk.injEq] at hs
    obtain ⟨rfl, rfl⟩ := hs
    cases hvs with
    | cons h1 hvs =>
      cases hvs
      cases h1 with
      | sc h1 =>
        cases h1 with
        | fn hcap =>
          cases hcap with
          | cons hc1 hcr =>
            cases hcr
            obtain ⟨L, hL, hLn, rfl⟩ := hc1
            obtain ⟨b1, ccs, e0, fz, b2, b3, b4, b5, b6, b7, b8, b9⟩ := (R.blk p L [.mapv m] rw0 ⟨0, some t⟩ hp hL).cell hLn
            have hbase : L.base = 0 := (b8 t rfl).1
            obtain ⟨c, hc1, hc2⟩ := b5 0 (.mapv m) rfl
            rw [hbase] at hc1
            cases hc2 with
            | mapv hM hMn =>
              rename_i M
              obtain ⟨es, k1, k2, k3, k4, k5⟩ := map_blk R hm hM hMn
              obtain ⟨q1, q2⟩ := map_keysZ (w := w) (L := M) k2 z3 k4 k5
              have hcell : w.cell? ⟨L.b, 0, none⟩ = some (.map (some M.b)) := by
                rw [cell_of_row w L.b 0 ccs e0 _ b2]
                simpa using hc1
              have hlt : L.b < w.heap.size := (Array.getElem?_eq_some_iff.1 b2).1
              have hwf : ∀ x ∈ es.toList, ∃ n : Int, x.key = .int .i64 n ∧ (Lit.int .i64 n).wf = true := by
                intro x hx
                have : x.key ∈ es.toList.map (·.key) := List.mem_map.2 ⟨x, hx, rfl⟩
                rw [q1] at this
                obtain ⟨n, hn, e⟩ := List.mem_map.1 this
                obtain ⟨r1, r2⟩ := hrg n hn
                refine ⟨n, e.symm, ?_⟩
                simp only [Lit.wf, Bool.and_eq_true, decide_eq_true_eq]
                have m1 : IntKind.i64.min = -9223372036854775808 := by decide
                have m2 : IntKind.i64.max = 9223372036854775807 := by decide
                omega
              have hrd : ∀ x ∈ es.toList, ∃ n : Int, x.key = .int .i64 n ∧ Go.WideElems.rd P kt (fun _ => some ((DataW.nil : DataW Unit), [])) x = some (.int .i64 n, .nil) := by
                intro x hx
                obtain ⟨n, e, hw⟩ := hwf x hx
                refine ⟨n, e, ?_⟩
                unfold Go.WideElems.rd
                rw [e, Go.Maps.keyOf_int_mk hkt hw]
                rfl
              have hown : w.ownsMap P kt (fun _ => some ((DataW.nil : DataW Unit), [])) M.b es.size (.map ((es.toList.map (Go.WideElems.rg P kt fun _ => some ((DataW.nil : DataW Unit), []))).foldr DataW.insert [])) := by
                refine ⟨es, es.size, k1, ⟨?_, ⟨?_, ?_, ?_⟩, ?_⟩, Nat.le_refl _, rfl⟩
                · have : maxLen = 9223372036854775807 := rfl
                  omega
                · intro x hx
                  obtain ⟨i, hi⟩ := List.mem_iff_getElem?.1 hx
                  have hi2 : es[i]? = some x := by rw [← hi]; simp
                  rw [(k4 i x hi2).1]
                  exact (Array.getElem?_eq_some_iff.1 hi2).1
                · have : es.toList.map (·.born) = List.range es.size := by
                    refine List.ext_getElem? fun i => ?_
                    by_cases hi : i < es.size
                    · obtain ⟨e, he⟩ : ∃ e, es[i]? = some e := ⟨_, Array.getElem?_eq_getElem hi⟩
                      have e4 : es.toList[i]? = some e := by rw [← he]; simp
                      rw [List.getElem?_map, e4, List.getElem?_range hi, Option.map_some, (k4 i e he).1]
                    · rw [List.getElem?_eq_none (by simp; omega), List.getElem?_eq_none (by simp; omega)]
                  rw [this]; exact List.nodup_range
                · rw [q1]
                  exact List.pairwise_map.2 (List.Pairwise.imp (fun {a b} hab e => hab (by simpa using e)) hnd)
                · intro x hx
                  obtain ⟨n, -, e⟩ := hrd x hx
                  exact ⟨_, e⟩
              have hkeys := keys_perm (es := es) (P := P) (kt := kt) q1 hrd
              have hsize : Go.Maps.size (H := Unit) (.map ((es.toList.map (Go.WideElems.rg P kt fun _ => some ((DataW.nil : DataW Unit), []))).foldr DataW.insert [])) = es.size := by
                show List.length _ = _
                rw [(Go.WideShapes.sorted_perm _).length_eq]; simp
              have hmx : maxLen = 9223372036854775807 := rfl
              have hcall := hc M.b L.b es.size _ _ w hlt hcell hown (by rw [hsize]; omega) (by rw [hsize]; omega)
              have eB : (#[(Value.pointer (some ⟨L.b, L.base + 0, none⟩))] : Array Value) = #[.pointer (some ⟨L.b, 0, none⟩)] := by rw [hbase]
              show Calls P f #[.func (.func f') #[] #[.pointer (some ⟨L.b, L.base + 0, none⟩)]] w _
              rw [eB]
              refine hcall.mono ?_
              rintro e w' ⟨v, ss, rfl, hS, hrow, hnil, hbl⟩
              have hfr : β h.length = none := hf _ (Nat.le_refl _) (by simp)
              have hperm := hS.trans hkeys
              have hms := Go.mergeSort_of_perm_i hperm
              have hpl := hperm.length_eq
              rw [hms] at hrow
              have hpos : 0 < es.size := by
                rcases Nat.eq_zero_or_pos es.size with h0 | h0
                · rw [h0, Nat.zero_mul] at k2
                  exact absurd (List.eq_nil_of_length_eq_zero k2) hne
                · exact h0
              obtain ⟨o1, o2⟩ := hrow
              rcases o2 with ⟨o3, o4⟩ | ⟨A, cap, cur, o3, o4, o5, o6, o7, o8, o9⟩
              · omega
              · subst o3
                have hml : ((keysZ z cs).mergeSort (fun x y : Int => decide (x ≤ y))).length = (keysZ z cs).length := List.length_mergeSort _
                have hlen : (((keysZ z cs).mergeSort (fun x y : Int => decide (x ≤ y))).map (SV.int .i64)).length ≤ cur.size := by rw [List.length_map, hml, o8, Nat.mul_one]; omega
                obtain ⟨s1, s2⟩ := rep_row R hfr hbl o4 o5 hlen (fun i v hi => by
                  rw [List.getElem?_map] at hi
                  cases hx : ((keysZ z cs).mergeSort (fun x y : Int => decide (x ≤ y)))[i]? with
                  | none => rw [hx] at hi; cases hi
                  | some x =>
                    rw [hx] at hi
                    simp only [Option.map_some, Option.some.injEq] at hi
                    subst hi
                    refine ⟨.int .i64 x, ?_, .int _ _⟩
                    have h9 : (cur.toList.take (ss.length * 1))[i]? = some (Value.int .i64 x) := by rw [o9, List.getElem?_map, hx]; rfl
                    rw [List.getElem?_take] at h9
                    split at h9
                    · simpa using h9
                    · cases h9)
                refine ⟨_, _, rfl, .sc ?_, s1, s2⟩
                rw [hpl]
                refine .slc (upd_same _ _ _) (fun k hk => by cases hk) (by omega) (fun _ => rfl) (fun _ => ⟨Nat.le_refl _, ?_⟩) (show (1 : ESz).n < 1000000 by decide)
                simp [o8]
end Go.Ab

